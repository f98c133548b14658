/- Branches with lists of the call's own, each in a block of its own; how they are read, and what stores into them do. -/
import Derived.Test.YtenehghpmnajpaaDoorOsA
set_option linter.unusedVariables false
set_option linter.unusedSimpArgs false
namespace Go.Proofs.YtenehghpmnajpaaDoor
open Go.RowKit
open Classical

abbrev BT := Brn × Option Addr × Nat
def blk (x : BT) : Option Nat := (Value.slice x.2.1 x.1.next.length x.2.2).ownBlock
/-- The lists of branches lie in rows of the call's own, no two in one block. -/
structure NextOwn (base : Nat) (w : World) (xs : List BT) : Prop where
  own : ∀ x ∈ xs, w.ownsRow base 3 1 (.slice x.2.1 x.1.next.length x.2.2) x.1.next.length (nums x.1.next)
  one : xs.Pairwise fun x y => blk x ≠ blk y
def BrnWd (x : Brn) : Prop := Wide x.limit ∧ Wide x.clock ∧ x.next.length ≤ 1000 ∧ ∀ y ∈ x.next, Wide y
theorem brn_read {base base' : Nat} {w : World} {A : Option Addr} {cap n : Nat} {xs : List BT} (hn : xs.length = n) (h : w.ownsRow base 76 3 (.slice A n cap) n (xs.flatMap encN)) (hx : ∀ x ∈ xs, w.ownsRow base' 3 1 (.slice x.2.1 x.1.next.length x.2.2) x.1.next.length (nums x.1.next)) (hw : ∀ x ∈ xs, BrnWd x.1) : SlOf 3 RBrn w A (xs.map (·.1)) := by
  intro k hk
  have hk' : k < xs.length := by simpa using hk
  obtain ⟨g, cap', e, _, _, hc⟩ := owns_cell h (by omega)
  cases e
  refine ⟨g, 0, rfl, ?_⟩
  have hf := fun j (hj : j < 3) => flat_at encN 3 (fun _ => rfl) xs k j hk' hj
  have h2 : ∀ j, j < 3 → w.cell? ⟨g, k * 3 + j, none⟩ = (encN xs[k])[j]? := fun j hj => by
    rw [hc (k * 3 + j) (by omega), hf j hj]
  rw [Nat.zero_add]
  obtain ⟨a1, b1, c1, d1⟩ := hw xs[k] (List.getElem_mem hk')
  obtain ⟨a', c', e, hcc, o1⟩ := owns_own1 (hx xs[k] (List.getElem_mem hk'))
  rw [List.getElem_map]
  have e2 : xs[k].2.1 = a' ∧ xs[k].2.2 = c' := by injection e with e1 _ e3; exact ⟨e1, e3⟩
  refine ⟨⟨h2 0 (by omega), a1⟩, ⟨h2 1 (by omega), b1⟩, ⟨_, _, h2 2 (by omega), by rw [e2.2]; exact hcc, by unfold Fit; omega, by rw [e2.1]; exact o1.slI fun j hj => d1 _ (List.getElem_mem hj)⟩⟩
theorem NextOwn.gr {base : Nat} {w w' : World} {xs : List BT} (h : NextOwn base w xs) (hg : Gr w w') : NextOwn base w' xs := ⟨fun x hx => Gr.owns (h.own x hx) hg, h.one⟩
theorem NextOwn.mv {b len base : Nat} {w w' : World} {xs : List BT} (h : NextOwn base w xs) (hm : Mv b len w w') (hb : b < base) : NextOwn base w' xs := ⟨fun x hx => hm.owns (h.own x hx) hb, h.one⟩
/-- A row of something else changed. -/
theorem NextOwn.oth {base base' e size n : Nat} {w w' : World} {xs : List BT} {v : Value} {us : List Value} (h : NextOwn base w xs) (o : w.ownsRow base' e size v n us) (he : e ≠ 3) (hg : w.grownBy w' v.ownBlock) : NextOwn base w' xs := ⟨fun x hx => (h.own x hx).kept hg (owns_two o (h.own x hx) he), h.one⟩
theorem NextOwn.setc {base B o T : Nat} {w : World} {xs : List BT} {us : List Value} {v : Value} (h : NextOwn base w xs) (r : RowS w B T us) (hT : T ≠ 3) : NextOwn base (w.setCell ⟨B, o, none⟩ v) xs := ⟨fun x hx => owns_set (h.own x hx) r hT, h.one⟩
/-- A row that was made later changed. -/
theorem NextOwn.new {base : Nat} {w0 w w' : World} {xs : List BT} {row : Option Nat} (h0 : NextOwn base w0 xs) (h : NextOwn base w xs) (hg : w.grownBy w' row) (hr : ∀ k, row = some k → w0.heap.size ≤ k) : NextOwn base w' xs := ⟨fun x hx => by
  refine (h.own x hx).kept hg ?_
  cases e : (Value.slice x.2.1 x.1.next.length x.2.2).ownBlock with
  | none => exact .inl rfl
  | some k =>
    refine .inr fun q => ?_
    have h1 := hr k q.symm
    have h2 := ((h0.own x hx).lt k e).2
    omega, h.one⟩
theorem NextOwn.snoc {base : Nat} {w : World} {xs : List BT} {x : BT} (h : NextOwn base w xs) (ho : w.ownsRow base 3 1 (.slice x.2.1 x.1.next.length x.2.2) x.1.next.length (nums x.1.next)) (hn : ∀ y ∈ xs, blk y ≠ blk x) : NextOwn base w (xs ++ [x]) := by
  refine ⟨fun y hy => ?_, ?_⟩
  · rcases List.mem_append.1 hy with hy | hy
    · exact h.own y hy
    · rw [List.mem_singleton.1 hy]; exact ho
  · rw [List.pairwise_append]
    exact ⟨h.one, by simp, fun y hy z hz => by rw [List.mem_singleton.1 hz]; exact hn y hy⟩
theorem encN_set0 (xs : List BT) (i : Nat) (hi : i < xs.length) (y : Int) : (xs.flatMap encN).set (i * 3) (.int .i64 y) = (xs.set i (⟨y, xs[i].1.clock, xs[i].1.next⟩, xs[i].2.1, xs[i].2.2)).flatMap encN := by
  induction xs generalizing i with
  | nil => simp at hi
  | cons x xs ih =>
    cases i with
    | zero => simp [encN]
    | succ i =>
      have := ih i (by simpa using hi)
      have e : (i + 1) * 3 = i * 3 + 3 := by omega
      rw [e]
      simp only [List.flatMap_cons, List.set_cons_succ, List.getElem_cons_succ]
      rw [← this]
      simp [encN]
theorem encN_set1 (xs : List BT) (i : Nat) (hi : i < xs.length) (y : Int) : (xs.flatMap encN).set (i * 3 + 1) (.int .i64 y) = (xs.set i (⟨xs[i].1.limit, y, xs[i].1.next⟩, xs[i].2.1, xs[i].2.2)).flatMap encN := by
  induction xs generalizing i with
  | nil => simp at hi
  | cons x xs ih =>
    cases i with
    | zero => simp [encN]
    | succ i =>
      have := ih i (by simpa using hi)
      have e : (i + 1) * 3 + 1 = (i * 3 + 1) + 3 := by omega
      rw [e]
      simp only [List.flatMap_cons, List.set_cons_succ, List.getElem_cons_succ]
      rw [← this]
      simp [encN]
theorem mem_set_or {α : Type} {xs : List α} {i : Nat} {x y : α} (h : y ∈ xs.set i x) : y = x ∨ y ∈ xs := (List.mem_or_eq_of_mem_set h).symm
/-- What bent gives: some branches. -/
def GivesBent (b len : Nat) (w : World) (e : Ending) (w' : World) : Prop :=
  ∃ (bs : List Brn) (A : Option Addr) (cap : Nat), e = .returned (.slice A bs.length cap) ∧ SlOf 3 RBrn w' A bs ∧ bs.length ≤ 100000 ∧ Mv b len w w'
end Go.Proofs.YtenehghpmnajpaaDoor
