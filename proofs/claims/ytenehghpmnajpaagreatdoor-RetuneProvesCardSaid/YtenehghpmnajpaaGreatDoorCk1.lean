/- Contract of Check$1: nothing changes but whether all neighbours are on the list. -/
import Derived.Test.YtenehghpmnajpaaGreatDoorEaC
import Derived.Test.YtenehghpmnajpaaGreatDoorCsP
import Derived.Test.YtenehghpmnajpaaGreatDoorKo
import Derived.Maps.RangeWalk
set_option linter.unusedVariables false
set_option linter.unusedSimpArgs false
namespace Go.Proofs.YtenehghpmnajpaaGreatDoor
open Go.RowKit Go.Maps
open Classical

theorem run_look_b {w : World} {B : Nat} {V : List (Int × Bool)} (h : MapB w B V) {k : Int} (hk : Wide k) :
    (Instr.lookup 125 (.map (some B)) (.int .i64 k) false).run Tryz.prog w = .ok (.bool ((look V k).getD false)) w := by
  obtain ⟨D, h1, h2, h3⟩ := h
  obtain ⟨v, ps, hr, hv⟩ := h1.lookup keyed_int Tryz.underlying125 (zero_bool w) (plainElem_bool Tryz.underlying4 false) (keyOf_int_mk Tryz.underlying3 (wide_wf hk))
  rw [hr]
  obtain ⟨x, rfl, hx⟩ := plainElem_bool_inv hv
  cases e : look V k with
  | none =>
    rw [atKey_of_not_has (by rw [h2 k, e]; rfl)] at hx
    simp at hx
    subst hx; simp
  | some y =>
    rw [h3 k y _ e] at hx
    simp at hx
    subst hx; simp
/-- What the loops over the map keep: an iterator over it, and whether the list is closed so far. -/
structure CSt (l : List Clk) (base BW BI BM BR : Nat) (cs : List (List Int)) (D : DataW Unit) (left : Lit → Bool) (cnt : Nat) (b : Bool) (w : World) (L : List Nat) : Prop where
  whole : Row w BW 4 [.bool b]
  box : Row w BI 125 [.map (some BM)]
  it : w.ranges Tryz.prog 3 (plainElem Tryz.prog 4) BM BR cs.length D left cnt
  has : ∀ k, Maps.has D (.int .i64 k) = (look (entV l cs) k).isSome
  at' : ∀ k x z, look (entV l cs) k = some x → D.atKey (.int .i64 k) z = .lit (.bool x)
  off : BW ∉ L ∧ BI ∉ L ∧ BM ∉ L ∧ BR ∉ L
  low : base ≤ BW ∧ base ≤ BI ∧ base ≤ BM ∧ base ≤ BR
section
variable {l : List Clk} {base BW BI BM BR : Nat} {cs : List (List Int)} {D : DataW Unit} {left : Lit → Bool} {cnt : Nat} {b : Bool} {w : World} {L : List Nat}
theorem CSt.map (h : CSt l base BW BI BM BR cs D left cnt b w L) : MapB w BM (entV l cs) :=
  ⟨D, by rw [entV_len]; exact h.it.owns, h.has, h.at'⟩
theorem cst_ok (l : List Clk) (base BW BI BM BR : Nat) (cs : List (List Int)) (D : DataW Unit) (left : Lit → Bool) (cnt : Nat) : LiesOk (CSt l base BW BI BM BR cs D left cnt) where
  keep := by
    intro b w w' L row q hg hrow
    have hne : ∀ b, b ∉ L → some b ≠ row := fun b hb e => hb (hrow b e.symm)
    exact ⟨q.whole.grown hg (hne _ q.off.1), q.box.grown hg (hne _ q.off.2.1), q.it.kept hg (hne _ q.off.2.2.1) (hne _ q.off.2.2.2), q.has, q.at', q.off, q.low⟩
  sub := by
    intro b w L L' q hs
    exact ⟨q.whole, q.box, q.it, q.has, q.at', ⟨fun m => q.off.1 (hs _ m), fun m => q.off.2.1 (hs _ m), fun m => q.off.2.2.1 (hs _ m), fun m => q.off.2.2.2 (hs _ m)⟩, q.low⟩
/-- The whole turns. -/
theorem CSt.turn (h : CSt l base BW BI BM BR cs D left cnt b w L) (hr : BR ≠ BW) (x : Bool) : CSt l base BW BI BM BR cs D left cnt x (w.setCell ⟨BW, 0, none⟩ (.bool x)) L where
  whole := by have := h.whole.set 0 (.bool x); simpa using this
  box := h.box.oth (h.whole.s.apart h.box.s (by decide))
  it := h.it.kept (grownBy_set w BW 0 _) (by intro e; injection e with e; exact h.map.ne_row h.whole e) (by intro e; injection e with e; exact hr e)
  has := h.has
  at' := h.at'
  off := h.off
  low := h.low
end
/-- What Check$1 does at a neighbour. -/
noncomputable def cStep (cs : List (List Int)) (b : Bool) (t : Nbr) : Bool := b && decide (t.2.2 ∈ cs)
set_option maxRecDepth 100000 in
set_option maxHeartbeats 2000000 in
theorem check1_any (l : List Clk) (cal : List Int → Bool) (BW BI BM BR : Nat) (cs : List (List Int)) (D : DataW Unit) (left : Lit → Bool) (cnt : Nat) (s : List Int) (w0 : World) (hc : cchk l = 0) (hset : SetOk l s) (ho : SetsOk l cs) (hr : BR ≠ BW) :
    VisitC (CSt l w0.heap.size BW BI BM BR cs D left cnt) (cStep cs) l cal s BW BI w0 := by
  intro t b w L ht hg hst hL
  have hto := (nb_ok ht hset).1
  have hwt := wide_num hc hto
  obtain ⟨w1, hw1⟩ : ∃ w1 : World, Hid (w1 = w.alloc (.cells #[.int .i64 1, .int .i64 t.1, .int .i64 t.2.1] 65)) := ⟨_, Lib.hid rfl⟩
  have G1 : Hid (Gr w w1) := Lib.hid (by rw [hw1.out]; exact (Gr.refl _).alloc _)
  have pk := cst_ok l w0.heap.size BW BI BM BR cs D left cnt
  have S1 : Hid (CSt l w0.heap.size BW BI BM BR cs D left cnt b w1 L) := Lib.hid (pk.keep _ _ _ _ none hst (G1.out.by none) (fun b e => by cases e))
  have LK : (Instr.lookup 125 (.map (some BM)) (.int .i64 (num l t.2.2)) false).run Tryz.prog w1 = .ok (.bool (decide (t.2.2 ∈ cs))) w1 := by
    rw [run_look_b S1.out.map hwt, look_ent ho hto]
    by_cases e : t.2.2 ∈ cs <;> simp [e]
  have w00 := hst.whole.cell 0 (by simp)
  have i0 := hst.box.cell 0 (by simp)
  have wh := hst.whole.has
  have ih := hst.box.has
  have wf := hst.whole.free 0
  simp only [List.getElem_cons_zero] at w00 i0
  have HG := Lib.hid hg
  have HLs := Lib.hid hL
  have HS := Lib.hid hst
  rw [hw1.out] at LK
  obtain ⟨x, ex⟩ : ∃ x, decide (t.2.2 ∈ cs) = x := ⟨_, rfl⟩
  rw [ex] at LK
  have HC : Hid (cStep cs b t = (b && x)) := Lib.hid (by unfold cStep; rw [ex])
  obtain ⟨n, hn⟩ : ∃ n, num l t.2.2 = n := ⟨_, rfl⟩
  rw [hn] at LK ⊢
  clear hst hto hwt hL hg ex hn pk hc ho
  have FIN : Hid (∀ W, W = (w.setCell ⟨BW, 0, none⟩ (.bool (b && x))).alloc (.cells #[.int .i64 1, .int .i64 t.1, .int .i64 t.2.1] 65) → CSt l w0.heap.size BW BI BM BR cs D left cnt (cStep cs b t) W L ∧ Gr w0 W ∧ (∀ b ∈ L, W.heap[b]? = w.heap[b]?) ∧ w.heap.size ≤ W.heap.size) := Lib.hid (fun W hW => by
    subst hW
    rw [HC.out]
    have hgr := grownBy_set w BW 0 (.bool (b && x))
    have ga : Gr (w.setCell ⟨BW, 0, none⟩ (.bool (b && x))) ((w.setCell ⟨BW, 0, none⟩ (.bool (b && x))).alloc (.cells #[.int .i64 1, .int .i64 t.1, .int .i64 t.2.1] 65)) := (Gr.refl _).alloc _
    refine ⟨(cst_ok l w0.heap.size BW BI BM BR cs D left cnt).keep _ _ _ _ none (HS.out.turn hr _) (ga.by none) (fun b e => by cases e), (HG.out.setc HS.out.low.1).trans ga, fun c hcL => ?_, Nat.le_trans hgr.size ga.size⟩
    have hb := HLs.out c hcL
    unfold Has at hb
    rw [ga.below.block c (Nat.lt_of_lt_of_le hb hgr.size)]
    exact hgr.block c hb (by intro e; injection e with e; subst e; exact HS.out.off.1 hcL))
  clear S1 G1
  cases b with
  | false =>
    simp only [Bool.false_and] at FIN
    go_enter Tryz.func88, Tryz.ntmps88
    go_wp2_with fail
    go_end0
    exact ⟨rfl, FIN.out _ rfl⟩
  | true =>
    simp only [Bool.true_and] at FIN
    go_enter Tryz.func88, Tryz.ntmps88
    go_wp2_with fail
    go_end0
    exact ⟨rfl, FIN.out _ rfl⟩
end Go.Proofs.YtenehghpmnajpaaGreatDoor
