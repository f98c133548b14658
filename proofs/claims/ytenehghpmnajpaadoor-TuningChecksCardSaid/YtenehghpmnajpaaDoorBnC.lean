/- Bent branches: what stays, and what each change gives. -/
import Derived.Test.YtenehghpmnajpaaDoorBnA
set_option linter.unusedVariables false
set_option linter.unusedSimpArgs false
namespace Go.Proofs.YtenehghpmnajpaaDoor
open Go.RowKit
open Classical

theorem gets_slI {w : World} {a : Option Addr} {xs : List Int} (h : SlOf 1 RI w a xs) : Gets w a xs.length 1 (nums xs) := by
  refine ⟨by simp [nums], fun h0 => ?_⟩
  obtain ⟨g, o, rfl, _⟩ := h 0 (by omega)
  refine ⟨_, rfl, fun j u hu => ?_⟩
  have hj : j < xs.length := by
    have := (List.getElem?_eq_some_iff.1 hu).1
    simpa [nums] using this
  obtain ⟨g', o', e, c, _⟩ := h j hj
  cases e
  simp only [nums, List.getElem?_map, List.getElem?_eq_getElem hj, Option.map_some] at hu
  injection hu with hu
  rw [← hu, Addr.add_lit]
  rw [Nat.mul_one] at c
  exact c
/-- What stays while branches are bent. -/
structure BSt (b len : Nat) (w : World) (xs : List BT) (g cap : Nat) (W : World) : Prop where
  own : W.ownsRow w.heap.size 76 3 (.slice (some ⟨g, 0, none⟩) xs.length cap) xs.length (xs.flatMap encN)
  nxt : NextOwn w.heap.size W xs
  wd : ∀ x ∈ xs, BrnWd x.1
  mv : Mv b len w W
section
variable {b len : Nat} {w W W' : World} {xs : List BT} {g cap : Nat}
theorem BSt.gr (h : BSt b len w xs g cap W) (hg : Gr W W') : BSt b len w xs g cap W' := ⟨Gr.owns h.own hg, h.nxt.gr hg, h.wd, h.mv.gr hg⟩
theorem BSt.mvd (h : BSt b len w xs g cap W) (hb : b < w.heap.size) (m : Mv b len W W') : BSt b len w xs g cap W' := ⟨m.owns h.own hb, h.nxt.mv m hb, h.wd, h.mv.trans hb m⟩
theorem BSt.gives (h : BSt b len w xs g cap W) (hl : xs.length ≤ 100000) : GivesBent b len w (.returned (.slice (some ⟨g, 0, none⟩) xs.length cap)) W :=
  ⟨xs.map (·.1), some ⟨g, 0, none⟩, cap, by simp, brn_read rfl h.own h.nxt.own h.wd, by simpa using hl, h.mv⟩
theorem BSt.at (h : BSt b len w xs g cap W) {k : Nat} (hk : k < xs.length) : W.cell? ⟨g, k * 3, none⟩ = some (.int .i64 xs[k].1.limit) ∧ W.cell? ⟨g, k * 3 + 1, none⟩ = some (.int .i64 xs[k].1.clock) ∧ W.cell? ⟨g, k * 3 + 2, none⟩ = some (.slice xs[k].2.1 xs[k].1.next.length xs[k].2.2) ∧ Has W g ∧ ∀ j, W.frozen? ⟨g, j, none⟩ = false := by
  have hf := fun j (hj : j < 3) => flat_at encN 3 (fun _ => rfl) xs k j hk hj
  have h0 : W.cell? ⟨g, k * 3, none⟩ = some (.int .i64 xs[k].1.limit) := by rw [h.own.cellAt (k * 3) (by omega)]; exact (hf 0 (by omega)).trans rfl
  have h1 : W.cell? ⟨g, k * 3 + 1, none⟩ = some (.int .i64 xs[k].1.clock) := by rw [h.own.cellAt (k * 3 + 1) (by omega), hf 1 (by omega)]; rfl
  have h2 : W.cell? ⟨g, k * 3 + 2, none⟩ = some (.slice xs[k].2.1 xs[k].1.next.length xs[k].2.2) := by rw [h.own.cellAt (k * 3 + 2) (by omega), hf 2 (by omega)]; rfl
  exact ⟨h0, h1, h2, has_of_cell h0, fun j => h.own.frozenAt j⟩
theorem BSt.low (h : BSt b len w xs g cap W) : w.heap.size ≤ g := (h.own.lt g rfl).1
/-- A limit or a clock of a branch is changed. -/
theorem BSt.put (h : BSt b len w xs g cap W) {k j : Nat} (hk : k < xs.length) (hj : j < 3) (x : Brn) (hx : x.next = xs[k].1.next) (hw : BrnWd x) (v : Value) (he : (xs.flatMap encN).set (k * 3 + j) v = (xs.set k (x, xs[k].2.1, xs[k].2.2)).flatMap encN) : BSt b len w (xs.set k (x, xs[k].2.1, xs[k].2.2)) g cap (W.setCell ⟨g, k * 3 + j, none⟩ v) where
  own := by
    have := owns_put h.own (j := k * 3 + j) (by omega) v
    rw [he] at this
    rw [List.length_set]; exact this
  nxt := by
    have hg := grownBy_set W g (k * 3 + j) v
    have h2 := h.nxt.oth h.own (by decide) hg
    refine ⟨fun y hy => ?_, ?_⟩
    · rcases mem_set_or hy with rfl | hy
      · simp only [hx]; exact h2.own _ (List.getElem_mem hk)
      · exact h2.own _ hy
    · have e : (xs.set k (x, xs[k].2.1, xs[k].2.2)).map blk = xs.map blk := by
        rw [List.map_set]
        have : blk (x, xs[k].2.1, xs[k].2.2) = (xs.map blk)[k]'(by simpa using hk) := by simp only [List.getElem_map, blk, hx]
        rw [this, List.set_getElem_self]
      have p := List.pairwise_map (f := blk) (R := fun a b => a ≠ b) |>.2 h.nxt.one
      rw [← e] at p
      exact List.pairwise_map.1 p
  wd := fun y hy => by
    rcases mem_set_or hy with rfl | hy
    · exact hw
    · exact h.wd _ hy
  mv := h.mv.setc h.low
theorem slOf_take {n : Nat} {α : Type} {R : World → Nat → Nat → α → Prop} {w : World} {a : Option Addr} {l : List α} (m : Nat) (h : SlOf n R w a l) : SlOf n R w a (l.take m) := by
  intro k hk
  have hk' : k < l.length := by simp at hk; omega
  obtain ⟨b, o, e, q⟩ := h k hk'
  exact ⟨b, o, e, by rw [List.getElem_take]; exact q⟩
/-- The last branch is left out. -/
theorem BSt.less (h : BSt b len w xs g cap W) (hl : xs.length ≤ 100000) {n : Nat} (hn : xs.length = n) {v : Int} (hv : v = (n : Int) - 1) (h1 : 1 ≤ n) {m : Nat} (hm : m = n - 1) : GivesBent b len w (.returned (.slice (some ⟨g, 0, none⟩) m cap)) W := by
  refine ⟨(xs.map (·.1)).take m, some ⟨g, 0, none⟩, cap, ?_, slOf_take m (brn_read rfl h.own h.nxt.own h.wd), ?_, h.mv⟩
  · rw [List.length_take, List.length_map, Nat.min_eq_left (by omega)]
  · rw [List.length_take, List.length_map]; omega
/-- A branch without a list is appended. -/
theorem BSt.more (h : BSt b len w xs g cap W) (hl : xs.length ≤ 90000) {y : Int} (hy : Wide y) {W' : World} {A : Option Addr} {c : Nat} (ho : W'.ownsRow w.heap.size 76 3 (.slice A (xs.length + 1) c) (xs.length + 1) (xs.flatMap encN ++ [.int .i64 y, .int .i64 0, .slice none 0 0])) (hg : W.grownBy W' (some g)) : GivesBent b len w (.returned (.slice A (xs.length + 1) c)) W' := by
  have h2 := h.nxt.oth h.own (by decide) hg
  have hr := brn_read (xs := xs ++ [(⟨y, 0, []⟩, none, 0)]) (n := xs.length + 1) (by simp) (by simpa [encN] using ho)
    (fun z hz => by
      rcases List.mem_append.1 hz with hz | hz
      · exact h2.own z hz
      · rw [List.mem_singleton.1 hz]; exact World.ownsRow_nil _ w.heap.size _ _)
    (fun z hz => by
      rcases List.mem_append.1 hz with hz | hz
      · exact h.wd z hz
      · rw [List.mem_singleton.1 hz]; exact ⟨hy, (by show Wide 0; unfold Wide; omega), by simp, by simp⟩)
  exact ⟨_, A, c, by simp, hr, by simp; omega, h.mv.grown hg (fun k e => by cases e; exact h.low)⟩
/-- A branch's list is another. -/
theorem BSt.next (h : BSt b len w xs g cap W) (hl : xs.length ≤ 100000) {k : Nat} (hk : k < xs.length) {ns : List Int} (hn : ns.length ≤ 1000) (hw : ∀ y ∈ ns, Wide y) {W' : World} {A : Option Addr} {m c : Nat} (hm : ns.length = m) (ho : W'.ownsRow w.heap.size 3 1 (.slice A m c) m (nums ns)) (hg : W.grownBy W' (blk xs[k])) : GivesBent b len w (.returned (.slice (some ⟨g, 0, none⟩) xs.length cap)) (W'.setCell ⟨g, k * 3 + 2, none⟩ (.slice A m c)) := by
  subst hm
  have hown : W'.ownsRow w.heap.size 76 3 (.slice (some ⟨g, 0, none⟩) xs.length cap) xs.length (xs.flatMap encN) := h.own.kept hg (owns_two (h.nxt.own _ (List.getElem_mem hk)) h.own (by decide))
  have hs := grownBy_set W' g (k * 3 + 2) (.slice A ns.length c)
  have ho2 : (W'.setCell ⟨g, k * 3 + 2, none⟩ (.slice A ns.length c)).ownsRow w.heap.size 3 1 (.slice A ns.length c) ns.length (nums ns) := ho.kept hs (owns_two hown ho (by decide))
  have hp := owns_put hown (j := k * 3 + 2) (by omega) (.slice A ns.length c)
  rw [encN_set xs k hk] at hp
  have hr := brn_read (xs := xs.set k (⟨xs[k].1.limit, xs[k].1.clock, ns⟩, A, c)) (n := xs.length) (by simp) hp
    (fun z hz => by
      obtain ⟨j, hj, rfl⟩ := List.getElem_of_mem hz
      have hj' : j < xs.length := by simpa using hj
      rw [List.getElem_set]
      split
      · exact ho2
      · rename_i hne
        have q : blk xs[j] ≠ blk xs[k] := by
          have pw := List.pairwise_iff_getElem.1 h.nxt.one
          rcases Nat.lt_or_gt_of_ne hne with q | q
          · exact fun e => pw k j hk hj' q e.symm
          · exact pw j k hj' hk q
        have h3 := (h.nxt.own _ (List.getElem_mem hj')).kept hg (.inr q)
        exact h3.kept hs (owns_two hown h3 (by decide)))
    (fun z hz => by
      rcases mem_set_or hz with rfl | hz
      · obtain ⟨a1, b1, _, _⟩ := h.wd _ (List.getElem_mem hk)
        exact ⟨a1, b1, hn, hw⟩
      · exact h.wd _ hz)
  refine ⟨_, some ⟨g, 0, none⟩, cap, by simp, hr, by simpa using hl, (h.mv.grown hg (fun B e => ((h.nxt.own _ (List.getElem_mem hk)).lt B e).1)).setc h.low⟩
end
theorem brns_wide {w : World} {a : Option Addr} {bs : List Brn} (h : SlOf 3 RBrn w a bs) (hn : ∀ x ∈ bs, x.next.length ≤ 900) : ∀ x ∈ bs, BrnWd x := by
  intro x hx
  obtain ⟨k, hk, rfl⟩ := List.getElem_of_mem hx
  obtain ⟨g, o, e, ⟨_, w0⟩, ⟨_, w1⟩, a2, p2, _, _, _, s2⟩ := h k hk
  refine ⟨w0, w1, Nat.le_trans (hn _ hx) (by omega), fun y hy => ?_⟩
  obtain ⟨j, hj, rfl⟩ := List.getElem_of_mem hy
  obtain ⟨_, _, _, _, hw⟩ := s2 j hj
  exact hw
end Go.Proofs.YtenehghpmnajpaaDoor
