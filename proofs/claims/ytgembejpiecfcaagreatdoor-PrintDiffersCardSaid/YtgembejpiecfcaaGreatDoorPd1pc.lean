/- Lemmas and contracts for the proof of PrintDiffers (several texts in one, printed by wip/tools/pack.py): Kd UbK PzA PzB. -/
import Derived.Test.YtgembejpiecfcaaGreatDoorPd1pa
import Derived.OpenShut
import Derived.Maps.AppendAt
import Derived.Deep.RegionLaw
import Derived.Deep.AppendLies
import Derived.Deep.DeepCutAuto
import Derived.Test.YtgembejpiecfcaaGreatDoorPd1pb
import Derived.Lib.Join
import Derived.Lib.SplitLaws
set_option maxRecDepth 100000
set_option maxHeartbeats 16000000

/-! The operations of one region of a function, found by its number. -/
set_option linter.unusedVariables false
set_option linter.unusedSimpArgs false
namespace Go.Proofs.YtgembejpiecfcaaGreatDoor
open Go.RowKit
def regOps (id : Nat) : Code → Option (Array Oper)
  | .region i ops _ => bif Nat.beq i id then some ops else none
  | .seq a b => match regOps id a with | some o => some o | none => regOps id b
  | .cond _ a b => match regOps id a with | some o => some o | none => regOps id b
  | .block _ c => regOps id c
  | .loop c => regOps id c
  | .scope c => regOps id c
  | .rangeFunc _ _ a b => match regOps id a with | some o => some o | none => regOps id b
  | _ => none
def regIn (id : Nat) (f : Func) : Array Oper := ((f.body.bind (regOps id))).getD #[]
theorem wp_code_eq {P : Program} {c c' : Code} {Q : Exit → Act → World → Prop} {a : Act} {w : World} (h : c = c') (hw : c.wp P Q a w) : c'.wp P Q a w := h ▸ hw
end Go.Proofs.YtgembejpiecfcaaGreatDoor
/-! A region that draws its order, by an invariant that every ready operation keeps. -/
set_option linter.unusedVariables false
set_option linter.unusedSimpArgs false
namespace Go.Proofs.YtgembejpiecfcaaGreatDoor
open Go.RowKit
section
variable {P : Program} {ops : Array Oper} {md : Region.Mode}
def undone (done : Array Bool) : Nat := done.toList.count false
theorem undone_set {done : Array Bool} {i : Nat} (h : done.getD i true = false) : undone (done.setIfInBounds i true) + 1 = undone done := by
  have hi : i < done.size := by
    rcases Nat.lt_or_ge i done.size with q | q
    · exact q
    · simp [Array.getD, Nat.not_lt.2 q] at h
  have hd : done[i] = false := by simpa [Array.getD, hi] using h
  unfold undone
  rw [Array.toList_setIfInBounds, List.count_set (by simpa using hi)]
  have h1 : done.toList[i]'(by simpa using hi) = false := by simpa using hd
  have h2 : 0 < done.toList.count false := List.count_pos_iff.2 (by rw [← h1]; exact List.getElem_mem _)
  simp only [h1]
  rw [if_pos (by decide), if_neg (by decide)]
  omega
theorem any_of_inv {Q : Exit → Act → World → Prop} {Inv : Array Bool → Act → World → Prop} (hend : ∀ done a w, Region.ready md ops done = [] → Inv done a w → Q .normal a w)
    (step : ∀ done a w i, i ∈ Region.ready md ops done → Inv done a w → wpOp P ops Q i (fun a' w' => Inv (done.setIfInBounds i true) a' w') a w) (fuel : Nat) :
    ∀ done a w, undone done ≤ fuel → Inv done a w → wpAny P md ops Q fuel done a w := by
  induction fuel with
  | zero =>
    intro done a w hu h
    have hr : Region.ready md ops done = [] := by
      rcases hq : Region.ready md ops done with _ | ⟨i, t⟩
      · rfl
      · have hi : i ∈ Region.ready md ops done := by rw [hq]; simp
        have := undone_set (mem_ready.1 hi).1
        omega
    exact ⟨hr, hend _ _ _ hr h⟩
  | succ fuel ih =>
    intro done a w hu h
    refine ⟨fun hr => hend _ _ _ hr h, fun i hi => ?_⟩
    have hc := undone_set (mem_ready.1 hi).1
    exact wpOp_mono (fun a' w' h' => ih _ a' w' (by omega) h') (step done a w i hi h)
theorem wp_region_inv {id : Nat} {Q : Exit → Act → World → Prop} {a : Act} {w : World} (Inv : Array Bool → Act → World → Prop) (hm : P.follows .mixedOrders = true) (h0 : Inv (Array.replicate ops.size false) a w.drew)
    (step : ∀ done a w i, i ∈ Region.ready .any ops done → Inv done a w → wpOp P ops Q i (fun a' w' => Inv (done.setIfInBounds i true) a' w') a w)
    (hend : ∀ done a w, Region.ready .any ops done = [] → Inv done a w → Q .normal a w) : (Code.region id ops true).wp P Q a w :=
  wp_region_any hm (any_of_inv hend step ops.size _ _ _ (by simp [undone]) h0)
end
section
variable {P : Program}
def depIdx (o : Oper) : List Nat := (o.after.toList.filter (Region.binds .any)).map (·.on)
def Deps (done : Array Bool) (o : Oper) : Prop := ∀ j, (depIdx o).contains j = true → done.getD j false = true
theorem deps_of {done : Array Bool} {o : Oper} (h : ∀ e ∈ o.after, Region.binds .any e = true → done.getD e.on false = true) : Deps done o := by
  intro j hj
  simp only [depIdx, List.contains_iff_mem, List.mem_map, List.mem_filter, Array.mem_toList_iff] at hj
  obtain ⟨e, ⟨h1, h2⟩, rfl⟩ := hj
  exact h e h1 h2
def StepsI (P : Program) (ops : Array Oper) (Q : Exit → Act → World → Prop) (Inv : Array Bool → Act → World → Prop) : List Oper → Nat → Prop
  | [], _ => True
  | o :: l, i => (∀ done a w, done.size = ops.size → done.getD i true = false → Deps done o → Inv done a w → ∀ K : Act → World → Prop, (∀ a' w', Inv (done.setIfInBounds i true) a' w' → K a' w') → if Region.wanted o (yielded ops a.tmps) = true then Oper.wp P o a w K Q else K (a.put o.dst undef) w) ∧ StepsI P ops Q Inv l (i + 1)
theorem StepsI.at {ops : Array Oper} {Q : Exit → Act → World → Prop} {Inv : Array Bool → Act → World → Prop} : ∀ (l : List Oper) (k : Nat), StepsI P ops Q Inv l k → ∀ i o, l[i]? = some o → ∀ done a w, done.size = ops.size → done.getD (k + i) true = false → Deps done o → Inv done a w → ∀ K : Act → World → Prop, (∀ a' w', Inv (done.setIfInBounds (k + i) true) a' w' → K a' w') → if Region.wanted o (yielded ops a.tmps) = true then Oper.wp P o a w K Q else K (a.put o.dst undef) w
  | [], _, _, i, o, h => by simp at h
  | o' :: l, k, ⟨h0, hs⟩, i, o, h => by
    cases i with
    | zero => simp at h; subst h; exact h0
    | succ i =>
      have := StepsI.at l (k + 1) hs i o (by simpa using h)
      rw [show k + 1 + i = k + (i + 1) by omega] at this
      exact this
def earlier : List Oper → Nat → Bool
  | [], _ => true
  | o :: l, i => (depIdx o).all (fun j => Nat.blt j i) && earlier l (i + 1)
theorem earlier_at : ∀ (l : List Oper) (k : Nat), earlier l k = true → ∀ i o, l[i]? = some o → ∀ j ∈ depIdx o, j < k + i
  | [], _, _, i, o, h => by simp at h
  | o' :: l, k, he, i, o, h => by
    simp only [earlier, Bool.and_eq_true, List.all_eq_true] at he
    cases i with
    | zero =>
      simp at h; subst h
      intro j hj
      have := he.1 j hj
      simpa [Nat.blt_eq] using this
    | succ i =>
      intro j hj
      have := earlier_at l (k + 1) he.2 i o (by simpa using h) j hj
      omega
theorem all_done {l : List Oper} {done : Array Bool} (he : earlier l 0 = true) (hs : done.size = l.length) (hr : Region.ready .any l.toArray done = []) : ∀ i, i < l.length → done.getD i false = true := by
  intro i
  induction i using Nat.strongRecOn with
  | ind i ih =>
    intro hi
    have hi' : i < done.size := by omega
    cases hd : done[i] with
    | true => simp [Array.getD, hi', hd]
    | false =>
      exfalso
      have : i ∈ Region.ready .any l.toArray done := by
        refine mem_ready.2 ⟨by simp [Array.getD, hi', hd], l[i], by simp [hi], fun e h1 h2 => ?_⟩
        have hm : e.on ∈ depIdx l[i] := by
          simp only [depIdx, List.mem_map, List.mem_filter, Array.mem_toList_iff]
          exact ⟨e, ⟨h1, h2⟩, rfl⟩
        have := earlier_at l 0 he i l[i] (by simp [hi]) e.on hm
        exact ih e.on (by omega) (by omega)
      rw [hr] at this
      simp at this
theorem wp_region_steps {id : Nat} {l : List Oper} {Q : Exit → Act → World → Prop} {a : Act} {w : World} (Inv : Array Bool → Act → World → Prop) (hm : P.follows .mixedOrders = true) (he : earlier l 0 = true) (h0 : Inv (Array.replicate l.length false) a w.drew)
    (step : StepsI P l.toArray Q Inv l 0) (hend : ∀ done a w, (∀ i, i < l.length → done.getD i false = true) → Inv done a w → Q .normal a w) : (Code.region id l.toArray true).wp P Q a w := by
  refine wp_region_inv (fun done a w => done.size = l.length ∧ Inv done a w) hm ⟨by simp, by simpa using h0⟩ (fun done a w i hi ⟨hs, h⟩ => ?_) (fun done a w hr ⟨hs, h⟩ => hend done a w (all_done he hs hr) h)
  obtain ⟨h1, o, h2, h3⟩ := mem_ready.1 hi
  refine wpOp_step h2 fun K hK => ?_
  have := StepsI.at l 0 step i o (by simpa using h2) done a w (by simpa using hs) (by simpa using h1) (deps_of h3) h K (fun a' w' q => hK a' w' ⟨by simpa using hs, by simpa using q⟩)
  exact this
theorem getD_set_same {done : Array Bool} {i : Nat} (h : i < done.size) : (done.setIfInBounds i true).getD i false = true := by simp [Array.getD, h]
theorem done_old {done : Array Bool} {i j : Nat} (hj : (done.setIfInBounds i true).getD j false = true) (h : i ≠ j) : done.getD j false = true := by
  rw [getD_set_ne false h] at hj; exact hj
theorem kp {done : Array Bool} {i j : Nat} {P : Prop} (f : done.getD j false = true → P) (h : i ≠ j := by decide) : (done.setIfInBounds i true).getD j false = true → P := fun q => f (done_old q h)
end
end Go.Proofs.YtgembejpiecfcaaGreatDoor
/-! A tape is made of the numbers that came in. -/
set_option linter.unusedVariables false
set_option linter.unusedSimpArgs false
namespace Go.Proofs.YtgembejpiecfcaaGreatDoor
open Go.RowKit
def RowIn (w : World) (a : Option Addr) (len cap : Nat) (zs : List Int) : Prop :=
  (a = none ∧ len = 0 ∧ cap = 0 ∧ zs = []) ∨
  ∃ x, a = some x ∧ len ≤ cap ∧ cap ≤ maxLen ∧ zs.length = cap ∧ (∀ i, i < zs.length → w.cell? (x.add i) = some (.int .i64 (zs.getD i 0))) ∧ ∀ n ∈ zs, (Lit.int .i64 n).wf = true
theorem addr_of_cell {w : World} {x : Addr} {v : Value} (h : w.cell? x = some v) : x = ⟨x.block, x.off, none⟩ := by
  cases x with
  | mk b o s =>
    cases s with
    | none => rfl
    | some k => simp only [World.cell?] at h; split at h <;> simp at h
theorem RowIn.ints {w : World} {a : Option Addr} {len cap : Nat} {zs : List Int} (h : RowIn w a len cap zs) (b : Nat) (hb : w.heap.size ≤ b) (n : Nat) (hn : n ≤ len) : IntsIn w b a n := by
  intro k hk
  rcases h with ⟨_, h2, _⟩ | ⟨x, rfl, h1, h2, h3, h4, h5⟩
  · omega
  · have c0 := h4 0 (by omega)
    have ck := h4 k (by omega)
    simp only [Addr.add, if_true] at c0
    have hx := addr_of_cell c0
    refine ⟨x.block, x.off, zs.getD k 0, by rw [← hx], ?_, ?_, ?_⟩
    · rw [hx] at c0; have : x.block < w.heap.size := has_of_cell c0; omega
    · simp only [Addr.add] at ck
      split at ck
      · rename_i e; subst e; rw [hx] at ck; simpa using ck
      · exact ck
    · have hmem : zs.getD k 0 ∈ zs := by
        rw [List.getD_eq_getElem?_getD, List.getElem?_eq_getElem (by omega)]; simp
      have := h5 _ hmem
      have := bounds_i64 this
      omega
def NewTape (w : World) (len : Nat) (e : Ending) (w' : World) : Prop :=
  ∃ b n, e = .returned (.pointer (some ⟨b, 0, none⟩)) ∧ Tape w' b 0 n ∧ Gr w w' ∧ w.heap.size ≤ b ∧ n ≤ len
theorem newTape_any (w : World) (a : Option Addr) (len cap : Nat) (zs : List Int) (h : RowIn w a len cap zs) :
    Calls Tryz.prog 10 #[.slice a len cap] w (NewTape w len) := by
  have hi := h.ints
  have H := Lib.hid h
  rcases h with ⟨rfl, rfl, rfl, rfl⟩ | ⟨x, rfl, h1, h2, h3, _, _⟩
  · clear hi
    go_enter Tryz.func10, Tryz.ntmps10
    go_wp2
    go_ret
    refine ⟨w.heap.size, 0, rfl, ⟨none, 0, by simp [go_sem], by simp [go_sem], by simp [go_sem], by omega, by omega, by omega, fun k hk => by omega⟩, (Gr.refl w).alloc _, Nat.le_refl _, by omega⟩
  · unfold maxLen at h2
    have HI := Lib.hid hi
    clear hi h3
    by_cases hl : len ≤ 500
    · go_enter Tryz.func10, Tryz.ntmps10
      go_wp2
      go_ret
      refine ⟨w.heap.size, len, rfl, ⟨some x, cap, by simp [go_sem], by simp [go_sem], by simp [go_sem], by omega, by omega, by omega, ?_⟩, (Gr.refl w).alloc _, Nat.le_refl _, by omega⟩
      exact (HI.out w.heap.size (Nat.le_refl _) len (Nat.le_refl _)).gr ((Gr.refl w).alloc _)
    · go_enter Tryz.func10, Tryz.ntmps10
      go_wp2
      go_ret
      refine ⟨w.heap.size, 500, rfl, ⟨some x, cap, by simp [go_sem], by simp [go_sem], by simp [go_sem], by omega, by omega, by omega, ?_⟩, (Gr.refl w).alloc _, Nat.le_refl _, by omega⟩
      exact (HI.out w.heap.size (Nat.le_refl _) 500 (by omega)).gr ((Gr.refl w).alloc _)
end Go.Proofs.YtgembejpiecfcaaGreatDoor
/-! Worlds in which a tape has moved on and memory has grown (for the laws on rates). -/
set_option linter.unusedVariables false
set_option linter.unusedSimpArgs false
namespace Go.Proofs.YtgembejpiecfcaaGreatDoor
open Go.RowKit
open Classical
def Tp (w : World) (b len : Nat) : Prop := ∃ p, Tape w b p len
def Mv (b len : Nat) (w w' : World) : Prop := ∃ p : Int, 0 ≤ p ∧ p ≤ (len : Int) ∧ Gr (w.setCell ⟨b, 1, none⟩ (.int .i64 p)) w'
theorem size_set (w : World) (a : Addr) (v : Value) : (w.setCell a v).heap.size = w.heap.size := by simp [World.setCell]
theorem Tp.has {w : World} {b len : Nat} (h : Tp w b len) : b < w.heap.size := h.elim fun _ h => h.has
theorem Mv.tp {w w' : World} {b len : Nat} (h : Mv b len w w') (ht : Tp w b len) : Tp w' b len := by
  obtain ⟨p, h0, h1, hg⟩ := h
  obtain ⟨q, ht⟩ := ht
  exact ⟨p, (ht.set h0 h1).gr hg⟩
theorem Tp.gr {w w' : World} {b len : Nat} (h : Tp w b len) (hg : Gr w w') : Tp w' b len := h.elim fun p h => ⟨p, h.gr hg⟩
theorem Mv.of_gr {w w' : World} {b len : Nat} (ht : Tp w b len) (hg : Gr w w') : Mv b len w w' := by
  obtain ⟨p, ht⟩ := ht
  obtain ⟨ao, cap, c0, c1, c2, c3, c4, c5, c6⟩ := ht
  exact ⟨p, c3, c4, by rw [setCell_id c1]; exact hg⟩
theorem gr_setCell {w w' : World} {b : Nat} (hg : Gr w w') (hb : b < w.heap.size) (v : Value) : Gr (w.setCell ⟨b, 1, none⟩ v) (w'.setCell ⟨b, 1, none⟩ v) := by
  have h := hg.below
  refine .of_below ⟨h.os, h.tape, h.output, by rw [size_set, size_set]; exact h.size, fun k hk => ?_⟩
  rw [size_set] at hk
  have := h.block k hk
  simp only [World.setCell, Array.getElem?_modify, this]
theorem Mv.trans {w w1 w2 : World} {b len : Nat} (h : Mv b len w w1) (hb : b < w.heap.size) (k : Mv b len w1 w2) : Mv b len w w2 := by
  obtain ⟨p, h0, h1, hg⟩ := h
  obtain ⟨q, k0, k1, kg⟩ := k
  refine ⟨q, k0, k1, ?_⟩
  have := gr_setCell hg (by rw [size_set]; exact hb) (.int .i64 q)
  rw [setCell_setCell] at this
  exact this.trans kg
theorem Mv.gr {w w1 w2 : World} {b len : Nat} (h : Mv b len w w1) (k : Gr w1 w2) : Mv b len w w2 := by
  obtain ⟨p, h0, h1, hg⟩ := h
  exact ⟨p, h0, h1, hg.trans k⟩
theorem Mv.alloc {w w1 : World} {b len : Nat} (o : Obj) (h : Mv b len w w1) : Mv b len w (w1.alloc o) := h.gr ((Gr.refl _).alloc o)
theorem Mv.setc {w w1 : World} {b len B o : Nat} {v : Value} (h : Mv b len w w1) (hB : w.heap.size ≤ B) : Mv b len w (w1.setCell ⟨B, o, none⟩ v) := by
  obtain ⟨p, h0, h1, hg⟩ := h
  exact ⟨p, h0, h1, hg.setCell (a := ⟨B, o, none⟩) (by rw [size_set]; exact hB) v⟩
theorem Mv.size {w w1 : World} {b len : Nat} (h : Mv b len w w1) : w.heap.size ≤ w1.heap.size := by
  obtain ⟨p, h0, h1, hg⟩ := h
  have := hg.size; rwa [size_set] at this
theorem Mv.block {w w1 : World} {b len k : Nat} (h : Mv b len w w1) (hk : k < w.heap.size) (hb : k ≠ b) : w1.heap[k]? = w.heap[k]? := by
  obtain ⟨p, h0, h1, hg⟩ := h
  rw [hg.below.block k (by rw [size_set]; exact hk)]
  simp [World.setCell, Array.getElem?_modify, Ne.symm hb]
theorem Mv.row {w w1 : World} {b len B T : Nat} {vs : List Value} (h : Mv b len w w1) (r : Row w B T vs) (hb : B ≠ b) : Row w1 B T vs := (h.block r.has hb).trans r
def ReadsM (b len : Nat) (w : World) (S : Int → Prop) (e : Ending) (w' : World) : Prop := ∃ x, e = .returned (.int .i64 x) ∧ S x ∧ Mv b len w w'
theorem Reads.m {b len : Nat} {w : World} {S : Int → Prop} {e : Ending} {w' : World} (h : Reads w b len S e w') : ReadsM b len w S e w' := by
  obtain ⟨x, p, e, hs, h0, h1, hg⟩ := h
  exact ⟨x, e, hs, p, h0, h1, hg⟩
theorem nM_any (w : World) (b len : Nat) (n : Int) (h : Tp w b len) (hn : 1 ≤ n) (hn1 : n ≤ 9223372036854775807) :
    Calls Tryz.prog 29 #[.pointer (some ⟨b, 0, none⟩), .int .i64 n] w (ReadsM b len w (InTo 0 (n - 1))) :=
  h.elim fun p h => (n_any w b len p n h hn hn1).mono fun _ _ q => q.m
theorem Mv.out {w W w' : World} {b len : Nat} (hg : Gr w W) (h : Mv b len W w') (hb : w.heap.size ≤ b) : Gr w w' := by
  obtain ⟨p, h0, h1, g⟩ := h
  exact (hg.setc hb).trans g
end Go.Proofs.YtgembejpiecfcaaGreatDoor
/-! Rows of cells of the call's own, with spare room, beside a tape that moves; what is appended and where it lies. Out of XRow, XMk, XMkA, XRox (wip/tools/own.py). -/
set_option linter.unusedVariables false
set_option linter.unusedSimpArgs false
namespace Go.Proofs.YtgembejpiecfcaaGreatDoor
open Go.RowKit
def nums (vs : List Int) : List Value := vs.map (Value.int .i64)
theorem nums_set (vs : List Int) (k : Nat) (b : Int) : (nums vs).set k (.int .i64 b) = nums (vs.set k b) := by simp [nums, List.map_set]
theorem Row.iat {w : World} {B T : Nat} {vs : List Int} (h : Row w B T (nums vs)) (k : Nat) (hk : k < vs.length) : w.cell? ⟨B, k, none⟩ = some (.int .i64 vs[k]) := by
  rw [h.cell k (by simpa [nums] using hk)]; simp [nums]
theorem Row.iset {w : World} {B T : Nat} {vs : List Int} (h : Row w B T (nums vs)) (k : Nat) (b : Int) : Row (w.setCell ⟨B, k, none⟩ (.int .i64 b)) B T (nums (vs.set k b)) := by
  rw [← nums_set]; exact h.set k _
def RowS (w : World) (B T : Nat) (vs : List Value) : Prop := ∃ rest, Row w B T (vs ++ rest)
theorem nums_one (vs : List Int) : ∀ u ∈ nums vs, u.oneCell' = true := by
  intro u hu
  obtain ⟨x, _, rfl⟩ := List.mem_map.1 hu
  rfl
def Own1 (base : Nat) (w : World) (T : Nat) (vs : List Value) (a : Option Addr) : Prop := vs = [] ∨ ∃ B, a = some ⟨B, 0, none⟩ ∧ base ≤ B ∧ RowS w B T vs
theorem Gr.grown {w W w' : World} {row : Option Nat} (h : Gr w W) (hg : W.grownBy w' row) (hrow : ∀ k, row = some k → w.heap.size ≤ k) : Gr w w' := by
  have hb := h.below
  refine .of_below ⟨hg.os.trans hb.os, hg.tape.trans hb.tape, hg.output.trans hb.output, Nat.le_trans hb.size hg.size, fun k hk => ?_⟩
  rw [hg.block k (Nat.lt_of_lt_of_le hk hb.size) (fun e => by have := hrow k e.symm; omega)]
  exact hb.block k hk
theorem grownBy_set (w : World) (B o : Nat) (v : Value) : w.grownBy (w.setCell ⟨B, o, none⟩ v) (some B) :=
  ⟨rfl, rfl, rfl, by simp [World.setCell], fun k _ hk => by simp only [World.setCell]; rw [Array.getElem?_modify, if_neg (fun e => hk (by rw [e]))]⟩
theorem Row.grown {w w' : World} {row : Option Nat} {B T : Nat} {vs : List Value} (h : Row w B T vs) (hg : w.grownBy w' row) (hne : some B ≠ row) : Row w' B T vs := (hg.block B h.has hne).trans h
theorem flat_at {α : Type} (f : α → List Value) (n : Nat) (hf : ∀ x, (f x).length = n) (ts : List α) (k j : Nat) (hk : k < ts.length) (hj : j < n) : (ts.flatMap f)[k * n + j]? = (f ts[k])[j]? := by
  induction ts generalizing k with
  | nil => simp at hk
  | cons x ts ih =>
    rw [List.flatMap_cons]
    cases k with
    | zero => rw [List.getElem?_append_left (by rw [hf]; omega)]; simp
    | succ k =>
      rw [List.getElem?_append_right (by rw [hf, Nat.add_mul]; omega), hf, show (k + 1) * n + j - n = k * n + j by rw [Nat.add_mul]; omega, ih k (by simpa using hk)]
      simp
theorem flat_len {α : Type} (f : α → List Value) (n : Nat) (hf : ∀ x, (f x).length = n) (ts : List α) : (ts.flatMap f).length = ts.length * n := by
  induction ts with
  | nil => simp
  | cons x ts ih => rw [List.flatMap_cons, List.length_append, hf, ih, List.length_cons, Nat.add_mul]; omega
theorem owns_cell {w : World} {base e size n : Nat} {v : Value} {xs : List Value} (h : w.ownsRow base e size v n xs) (hn : 0 < n) : ∃ g cap, v = .slice (some ⟨g, 0, none⟩) n cap ∧ n ≤ cap ∧ base ≤ g ∧ ∀ j, j < n * size → w.cell? ⟨g, j, none⟩ = xs[j]? := by
  obtain ⟨h0, ⟨rfl, h1⟩ | ⟨g, cap, cur, rfl, hb, hg, hn', _, hs, ht⟩⟩ := h
  · omega
  · refine ⟨g, cap, rfl, hn', hb, fun j hj => ?_⟩
    rw [← ht, List.getElem?_take, if_pos hj]
    simp [World.cell?, hg]
theorem owns_slice {w : World} {base e size n : Nat} {v : Value} {xs : List Value} (h : w.ownsRow base e size v n xs) : ∃ a c, v = .slice a n c := by
  rcases h.2 with ⟨rfl, rfl⟩ | ⟨g, cap, cur, rfl, _⟩
  · exact ⟨none, 0, rfl⟩
  · exact ⟨_, cap, rfl⟩
theorem Gr.owns {w w1 : World} {base e size n : Nat} {v : Value} {xs : List Value} (r : w.ownsRow base e size v n xs) (hg : Gr w w1) : w1.ownsRow base e size v n xs := by
  refine ⟨r.1, ?_⟩
  rcases r.2 with r | ⟨g, cap, cur, e, h1, h2, h3⟩
  · exact .inl r
  · exact .inr ⟨g, cap, cur, e, h1, (hg.below.block g (Array.getElem?_eq_some_iff.1 h2).1).trans h2, h3⟩
section
open Classical
theorem Mv.owns {w w1 : World} {b len base e size n : Nat} {v : Value} {xs : List Value} (h : Mv b len w w1) (r : w.ownsRow base e size v n xs) (hb : b < base) : w1.ownsRow base e size v n xs := by
  refine ⟨r.1, ?_⟩
  rcases r.2 with r | ⟨g, cap, cur, e, h1, h2, h3⟩
  · exact .inl r
  · exact .inr ⟨g, cap, cur, e, h1, (h.block (Array.getElem?_eq_some_iff.1 h2).1 (by omega)).trans h2, h3⟩
def Hold (b : Nat) (w : World) (Q : World → Prop) : Prop := ∀ p : Int, Q (w.setCell ⟨b, 1, none⟩ (.int .i64 p))
def GrMono (Q : World → Prop) : Prop := ∀ w w', Gr w w' → Q w → Q w'
theorem pickM_any (w : World) (b len : Nat) (h : Tp w b len) (eb n : Nat) (S : Int → Prop) (hn : 1 ≤ n) (hn1 : n ≤ 1000) (hne : eb ≠ b) (hel : ∀ k, k < n → ∃ x, w.cell? ⟨eb, k, none⟩ = some (.int .i64 x) ∧ S x) :
    Calls Tryz.prog 34 #[.pointer (some ⟨b, 0, none⟩), .slice (some ⟨eb, 0, none⟩) n n] w (ReadsM b len w S) :=
  h.elim fun p h => (pick_any w b len p h eb n S hn hn1 hne hel).mono fun _ _ q => q.m
theorem Mv.grown {w W w1 : World} {b len : Nat} {row : Option Nat} (h : Mv b len w W) (hg : W.grownBy w1 row) (hrow : ∀ k, row = some k → w.heap.size ≤ k) : Mv b len w w1 := by
  obtain ⟨p, h0, h1, g⟩ := h
  exact ⟨p, h0, h1, g.grown hg (fun k e => by rw [size_set]; exact hrow k e)⟩
end
def Gets (w : World) (A : Option Addr) (m size : Nat) (news : List Value) : Prop := news.length = m * size ∧ (m ≠ 0 → ∃ ad, A = some ad ∧ ∀ j u, news[j]? = some u → w.cell? (ad.add j) = some u)
section
variable {P : Program} (w : World)
theorem grownBy_same (row : Option Nat) : w.grownBy w row := World.grownBy.refl w row
theorem run_append_gets (base : Nat) (t ty e : TypeId) (i : TypeInfo) (z : Value) (size bytes : Nat) (ht : P.underlying t = some (.slice e)) (hi : P.info? e = some i) (hz : i.zero = some z) (hs : i.size = size) (hb : i.bytes = bytes) (hzs : z.cells.size = size) (h0 : 0 < size)
    (v : Value) (n : Nat) (xs : List Value) (hown : w.ownsRow base e size v n xs) (A : Option Addr) (m c : Nat) (news : List Value) (hg : Gets w A m size news) (h1 : ∀ u ∈ news, u.oneCell' = true) (h63 : n + m ≤ maxLen) (hbytes : (n + m) * bytes ≤ 140737488355328) (hbase : base ≤ w.heap.size) :
    ∃ v' w', (Builtin.append_ #[t, t] ty #[v, .slice A m c]).run P w = .ok v' w' ∧ w'.ownsRow base e size v' (n + m) (xs ++ news) ∧ w.grownBy w' v.ownBlock ∧ (v'.ownBlock = v.ownBlock ∨ v'.ownBlock = some w.heap.size) := by
  cases A with
  | some ad =>
    have hc : ∀ j u, news[j]? = some u → w.cell? (ad.add j) = some u := by
      by_cases hm : m = 0
      · subst hm
        have : news = [] := List.eq_nil_of_length_eq_zero (by have := hg.1; omega)
        subst this
        intro j u hu; simp at hu
      · obtain ⟨_, e, q⟩ := hg.2 hm
        cases e
        exact q
    obtain ⟨v', w', q1, q2, q3, _, q5⟩ := run_append_own_at (P := P) w base t ty e i z size bytes ht hi hz hs hb hzs h0 v n xs hown ad m c news hg.1 hc h1 h63 hbytes hbase
    exact ⟨v', w', q1, q2, q3, q5⟩
  | none =>
    have hm : m = 0 := Classical.byContradiction fun q => by obtain ⟨_, e, _⟩ := hg.2 q; cases e
    subst hm
    have : news = [] := List.eq_nil_of_length_eq_zero (by have := hg.1; omega)
    subst this
    refine ⟨v, w, ?_, by simpa using hown, grownBy_same w _, .inl rfl⟩
    obtain ⟨_, ⟨rfl, rfl⟩ | ⟨g, cap, cur, rfl, _, _, hnc, _⟩⟩ := hown
    · simp [Builtin.append_, run_underlying ht, sizeOf, typeInfo, hi, Builtin.lenOf, Builtin.firstCells]
    · simp [Builtin.append_, run_underlying ht, sizeOf, typeInfo, hi, Builtin.lenOf, Builtin.firstCells, hnc, storeCells]
theorem wp_append_gets {o : Oper} {a : Act} {K : Act → World → Prop} {Q : Exit → Act → World → Prop} (s x : Operand) (t : TypeId)
    (ho : o.op = .call { callee := .builtin .append, args := #[s, x], argTypes := #[t, t] }) (base : Nat) (e : TypeId) (i : TypeInfo) (z : Value) (size bytes : Nat) (ht : P.underlying t = some (.slice e)) (hi : P.info? e = some i) (hz : i.zero = some z) (hs : i.size = size) (hb : i.bytes = bytes) (hzs : z.cells.size = size) (h0 : 0 < size)
    (v : Value) (n : Nat) (xs : List Value) (hv : a.eval s = v) (hown : w.ownsRow base e size v n xs) (A : Option Addr) (m c : Nat) (news : List Value) (hx : a.eval x = .slice A m c) (hg : Gets w A m size news) (h1 : ∀ u ∈ news, u.oneCell' = true) (h63 : n + m ≤ maxLen) (hbytes : (n + m) * bytes ≤ 140737488355328) (hbase : base ≤ w.heap.size)
    (h : ∀ v' w', w'.ownsRow base e size v' (n + m) (xs ++ news) → w.grownBy w' v.ownBlock → (v'.ownBlock = v.ownBlock ∨ v'.ownBlock = some w.heap.size) → K (a.put o.dst v') w') : o.wp P a w K Q := by
  obtain ⟨v', w', q1, q2, q3, q4⟩ := run_append_gets (P := P) w base t o.type e i z size bytes ht hi hz hs hb hzs h0 v n xs hown A m c news hg h1 h63 hbytes hbase
  unfold Oper.wp execOp
  simp only [ho, resolve, invoke, builtin, Sem.run_bind, Sem.run_pure, Result.andThen_ok, List.map_toArray, List.map_cons, List.map_nil, hv, hx, q1]
  exact h v' w' q2 q3 q4
theorem wpList_append_gets {ops : Array Oper} {rest : List Oper} {o : Oper} {a : Act} {Q : Exit → Act → World → Prop} (hgd : o.guard = none) (s x : Operand) (t : TypeId)
    (ho : o.op = .call { callee := .builtin .append, args := #[s, x], argTypes := #[t, t] }) (base : Nat) (e : TypeId) (i : TypeInfo) (z : Value) (size bytes : Nat) (ht : P.underlying t = some (.slice e)) (hi : P.info? e = some i) (hz : i.zero = some z) (hs : i.size = size) (hb : i.bytes = bytes) (hzs : z.cells.size = size) (h0 : 0 < size)
    (v : Value) (n : Nat) (xs : List Value) (hv : a.eval s = v) (hown : w.ownsRow base e size v n xs) (A : Option Addr) (m c : Nat) (news : List Value) (hx : a.eval x = .slice A m c) (hg : Gets w A m size news) (h1 : ∀ u ∈ news, u.oneCell' = true) (h63 : n + m ≤ maxLen) (hbytes : (n + m) * bytes ≤ 140737488355328) (hbase : base ≤ w.heap.size)
    (h : ∀ v' w', w'.ownsRow base e size v' (n + m) (xs ++ news) → w.grownBy w' v.ownBlock → (v'.ownBlock = v.ownBlock ∨ v'.ownBlock = some w.heap.size) → wpList P ops Q rest (a.put o.dst v') w') : wpList P ops Q (o :: rest) a w :=
  wpList_plain hgd fun _ hK => wp_append_gets w s x t ho base e i z size bytes ht hi hz hs hb hzs h0 v n xs hv hown A m c news hx hg h1 h63 hbytes hbase fun v' w' q1 q2 q3 => hK _ _ (h v' w' q1 q2 q3)
theorem step_append_gets {ops : Array Oper} {o : Oper} {a : Act} {K : Act → World → Prop} {Q : Exit → Act → World → Prop} {E : Prop} (hgd : o.guard = none) (s x : Operand) (t : TypeId)
    (ho : o.op = .call { callee := .builtin .append, args := #[s, x], argTypes := #[t, t] }) (base : Nat) (e : TypeId) (i : TypeInfo) (z : Value) (size bytes : Nat) (ht : P.underlying t = some (.slice e)) (hi : P.info? e = some i) (hz : i.zero = some z) (hs : i.size = size) (hb : i.bytes = bytes) (hzs : z.cells.size = size) (h0 : 0 < size)
    (v : Value) (n : Nat) (xs : List Value) (hv : a.eval s = v) (hown : w.ownsRow base e size v n xs) (A : Option Addr) (m c : Nat) (news : List Value) (hx : a.eval x = .slice A m c) (hg : Gets w A m size news) (h1 : ∀ u ∈ news, u.oneCell' = true) (h63 : n + m ≤ maxLen) (hbytes : (n + m) * bytes ≤ 140737488355328) (hbase : base ≤ w.heap.size)
    (h : ∀ v' w', w'.ownsRow base e size v' (n + m) (xs ++ news) → w.grownBy w' v.ownBlock → (v'.ownBlock = v.ownBlock ∨ v'.ownBlock = some w.heap.size) → K (a.put o.dst v') w') :
    if Region.wanted o (yielded ops a.tmps) = true then Oper.wp P o a w K Q else E := by
  rw [if_pos (by simp [Region.wanted, hgd])]
  exact wp_append_gets w s x t ho base e i z size bytes ht hi hz hs hb hzs h0 v n xs hv hown A m c news hx hg h1 h63 hbytes hbase h
end
theorem owns_low {w : World} {base base' e size n : Nat} {v : Value} {xs : List Value} (h : w.ownsRow base e size v n xs) (hb : base' ≤ base) : w.ownsRow base' e size v n xs := by
  refine ⟨h.1, ?_⟩
  rcases h.2 with q | ⟨g, cap, cur, e, h1, h2⟩
  · exact .inl q
  · exact .inr ⟨g, cap, cur, e, by omega, h2⟩
theorem owns_block {w : World} {base e size n : Nat} {v : Value} {xs : List Value} (h : w.ownsRow base e size v n xs) : ∀ g, v.ownBlock = some g → base ≤ g ∧ g < w.heap.size := by
  intro g hg
  rcases h.2 with ⟨rfl, _⟩ | ⟨g', cap, cur, rfl, h1, h2, _⟩
  · cases hg
  · simp [Value.ownBlock] at hg
    subst hg
    exact ⟨h1, (Array.getElem?_eq_some_iff.1 h2).1⟩
end Go.Proofs.YtgembejpiecfcaaGreatDoor
/-! The code of one block or region of a function, found by its number (as XAnH, by itself). -/
set_option linter.unusedVariables false
set_option linter.unusedSimpArgs false
namespace Go.Proofs.YtgembejpiecfcaaGreatDoor
open Go.RowKit
end Go.Proofs.YtgembejpiecfcaaGreatDoor

set_option linter.unusedVariables false
set_option linter.unusedSimpArgs false
namespace Go.Proofs.YtgembejpiecfcaaGreatDoor
open Go.RowKit
open Classical
def Ty (w : World) (B T : Nat) : Prop := ∃ cur f, w.heap[B]? = some (.cells cur T f)
theorem Ty.apart {w : World} {B C T U : Nat} (h : Ty w B T) (k : Ty w C U) (hne : T ≠ U) : B ≠ C := by
  rintro rfl
  obtain ⟨_, _, h⟩ := h
  obtain ⟨_, _, k⟩ := k
  rw [h] at k
  cases k
  exact hne rfl
theorem Row.ty {w : World} {B T : Nat} {vs : List Value} (h : Row w B T vs) : Ty w B T := ⟨_, _, h⟩
theorem owns_ty {w : World} {base e size n : Nat} {v : Value} {xs : List Value} (h : w.ownsRow base e size v n xs) {g : Nat} (hg : v.ownBlock = some g) : Ty w g e := by
  rcases h.2 with ⟨rfl, _⟩ | ⟨g', cap, cur, rfl, _, h2, _⟩
  · cases hg
  · injection hg with hg
    subst hg
    exact ⟨_, _, h2⟩
theorem owns_ne {w : World} {b1 e1 s1 n1 b2 e2 s2 n2 : Nat} {v1 v2 : Value} {x1 x2 : List Value} (h : w.ownsRow b1 e1 s1 v1 n1 x1) (k : w.ownsRow b2 e2 s2 v2 n2 x2) (hne : e1 ≠ e2) : v1.ownBlock = none ∨ v1.ownBlock ≠ v2.ownBlock := by
  cases hz : v1.ownBlock with
  | none => exact .inl rfl
  | some g => exact .inr fun e => (owns_ty h hz).apart (owns_ty k e.symm) hne rfl
theorem Row.kept {w w' : World} {row : Option Nat} {B T : Nat} {vs : List Value} (h : Row w B T vs) (hg : w.grownBy w' row) (hne : some B ≠ row) : Row w' B T vs := (hg.block B h.has hne).trans h
theorem Ty.ne {w : World} {B T b2 e2 s2 n2 : Nat} {v2 : Value} {x2 : List Value} (h : Ty w B T) (k : w.ownsRow b2 e2 s2 v2 n2 x2) (hne : T ≠ e2) : some B ≠ v2.ownBlock := fun e => h.apart (owns_ty k e.symm) hne rfl
theorem row_cells {w : World} {B T : Nat} {xs : List Value} (h : Row w B T xs) : ∀ j u, xs[j]? = some u → w.cell? ((⟨B, 0, none⟩ : Addr).add j) = some u := by
  intro j u hu
  obtain ⟨hj, e⟩ := List.getElem?_eq_some_iff.1 hu
  rw [Addr.add_lit, Nat.zero_add, h.cell j hj, e]
theorem owns_stc {w : World} {base e size n : Nat} {v : Value} {xs : List Value} (h : w.ownsRow base e size v n xs) {B o : Nat} {u : Value} (hne : v.ownBlock ≠ some B) : (w.setCell ⟨B, o, none⟩ u).ownsRow base e size v n xs := by
  refine ⟨h.1, ?_⟩
  rcases h.2 with q | ⟨g, cap, cur, rfl, h1, h2, h3⟩
  · exact .inl q
  · refine .inr ⟨g, cap, cur, rfl, h1, ?_, h3⟩
    have : B ≠ g := fun e => hne (by rw [e]; rfl)
    simp only [World.setCell, Array.getElem?_modify]
    rw [if_neg this]; exact h2
theorem owns_ne_ty {w : World} {base e size n B T : Nat} {v : Value} {xs : List Value} (h : w.ownsRow base e size v n xs) (k : Ty w B T) (hne : e ≠ T) : v.ownBlock ≠ some B := fun q => (owns_ty h q).apart k hne rfl
def txtOk (s : St) : Bool := !s.isEmpty && s.all (fun c => decide (32 ≤ c.toNat) && decide (c.toNat ≤ 126))
def strsP (v : St) : Option (List St) :=
  if Lib.hasSuffix v [0] = true ∧ (Lib.split (Lib.trimSuffix v [0]) [0]).all txtOk = true then some (Lib.split (Lib.trimSuffix v [0]) [0]) else none
def hexD (d : Nat) : UInt8 := UInt8.ofNat (if d < 10 then 48 + d else 87 + d)
def hexF : Nat → Nat → St
  | 0, _ => []
  | f + 1, n => if n = 0 then [] else hexF f (n / 16) ++ [hexD (n % 16)]
def fmtN (n : Nat) : St := if n < 10 then [UInt8.ofNat (48 + n)] else [48, 120] ++ hexF 8 n
def escC (c : UInt8) : St := if c = 34 ∨ c = 92 then [92, c] else [c]
def quoS (s : St) : St := 34 :: (s.flatMap escC ++ [34])
def numS (l : List Nat) : St := Lib.join (l.map fmtN) [32]
def valT (v : St) : St := if v = [] then [] else match strsP v with
  | some l => Lib.join (l.map quoS) [44, 32]
  | none => if v.length % 4 = 0 then 60 :: (numS ((cellsL v).map Int.toNat) ++ [62]) else 91 :: (numS (v.map UInt8.toNat) ++ [93])
/-! Numbers. -/
def isHex (c : UInt8) : Bool := decide (48 ≤ c.toNat) && decide (c.toNat ≤ 57) || decide (97 ≤ c.toNat) && decide (c.toNat ≤ 102) || c == 120
theorem hexD_hex : ∀ d, d < 16 → isHex (hexD d) = true := by
  intro d hd
  have h : ∀ n : Fin 16, isHex (hexD n.val) = true := by decide
  exact h ⟨d, hd⟩
theorem hexD_inj : ∀ a b, a < 16 → b < 16 → hexD a = hexD b → a = b := by
  intro a b ha hb h
  have q : ∀ n m : Fin 16, hexD n.val = hexD m.val → n = m := by decide
  have := q ⟨a, ha⟩ ⟨b, hb⟩ h
  simpa using this
theorem hexF_all : ∀ f n, (hexF f n).all isHex = true
  | 0, _ => rfl
  | f + 1, n => by
    rw [hexF]
    split
    · rfl
    · rw [List.all_append, hexF_all f, List.all_cons, hexD_hex _ (Nat.mod_lt _ (by omega))]; rfl
theorem hexF_inj : ∀ f n m, n < 16 ^ f → m < 16 ^ f → hexF f n = hexF f m → n = m
  | 0, n, m, h1, h2, _ => by simp at h1 h2; omega
  | f + 1, n, m, h1, h2, h => by
    have e1 : n / 16 < 16 ^ f := by rw [Nat.pow_succ] at h1; omega
    have e2 : m / 16 < 16 ^ f := by rw [Nat.pow_succ] at h2; omega
    rw [hexF, hexF] at h
    split at h
    · split at h
      · omega
      · have := congrArg List.length h; simp at this
    · split at h
      · have := congrArg List.length h; simp at this
      · have hl := congrArg List.length h
        rw [List.length_append, List.length_append] at hl
        obtain ⟨h3, h4⟩ := List.append_inj h (by simp at hl; exact hl)
        have h5 := hexF_inj f _ _ e1 e2 h3
        have h6 := hexD_inj _ _ (Nat.mod_lt _ (by omega)) (Nat.mod_lt _ (by omega)) (by simpa using h4)
        omega
theorem hexF_len : ∀ f n, (hexF f n).length ≤ f
  | 0, _ => by simp [hexF]
  | f + 1, n => by
    rw [hexF]
    split
    · simp
    · have := hexF_len f (n / 16)
      rw [List.length_append]; simp; omega
theorem dig_inj : ∀ a b, a < 10 → b < 10 → UInt8.ofNat (48 + a) = UInt8.ofNat (48 + b) → a = b := by
  intro a b ha hb h
  have q : ∀ n m : Fin 10, UInt8.ofNat (48 + n.val) = UInt8.ofNat (48 + m.val) → n = m := by decide
  have := q ⟨a, ha⟩ ⟨b, hb⟩ h
  simpa using this
theorem dig_hex : ∀ a, a < 10 → isHex (UInt8.ofNat (48 + a)) = true := by
  intro a ha
  have q : ∀ n : Fin 10, isHex (UInt8.ofNat (48 + n.val)) = true := by decide
  exact q ⟨a, ha⟩
theorem fmtN_all (n : Nat) : (fmtN n).all isHex = true := by
  unfold fmtN
  split
  · rename_i h; rw [List.all_cons, dig_hex n h]; rfl
  · rw [List.all_append, hexF_all]; decide
theorem fmtN_pos (n : Nat) : fmtN n ≠ [] := by unfold fmtN; split <;> simp
theorem fmtN_len (n : Nat) : (fmtN n).length ≤ 10 := by
  unfold fmtN
  split
  · simp
  · have := hexF_len 8 n; simp; omega
theorem fmtN_inj {n m : Nat} (hn : n < 4294967296) (hm : m < 4294967296) (h : fmtN n = fmtN m) : n = m := by
  unfold fmtN at h
  split at h
  · split at h
    · exact dig_inj _ _ (by omega) (by omega) (by simpa using h)
    · have := congrArg List.length h; simp at this
  · split at h
    · have := congrArg List.length h; simp at this
    · exact hexF_inj 8 n m (by omega) (by omega) (by simpa using h)
theorem tw_app {p : UInt8 → Bool} {a b : St} (ha : a.all p = true) (hb : ∀ c, b.head? = some c → p c = false) : (a ++ b).takeWhile p = a := by
  induction a with
  | nil =>
    cases b with
    | nil => rfl
    | cons c b => rw [List.nil_append, List.takeWhile_cons, hb c rfl]; rfl
  | cons x a ih =>
    rw [List.all_cons, Bool.and_eq_true] at ha
    rw [List.cons_append, List.takeWhile_cons, if_pos ha.1, ih ha.2]
theorem split_tw {p : UInt8 → Bool} {a b a' b' : St} (ha : a.all p = true) (ha' : a'.all p = true) (hb : ∀ c, b.head? = some c → p c = false) (hb' : ∀ c, b'.head? = some c → p c = false) (h : a ++ b = a' ++ b') : a = a' ∧ b = b' := by
  have h1 := congrArg (List.takeWhile p) h
  rw [tw_app ha hb, tw_app ha' hb'] at h1
  subst h1
  exact ⟨rfl, List.append_cancel_left h⟩
def tailJ (sep : St) (l : List St) : St := l.flatMap (sep ++ ·)
theorem join_cons (x sep : St) (l : List St) : Lib.join (x :: l) sep = x ++ tailJ sep l := by
  unfold Lib.join tailJ
  induction l generalizing x with
  | nil => simp [List.intercalate]
  | cons y l ih =>
    have := ih y
    simp only [List.intercalate, List.intersperse_cons_cons, List.flatten_cons] at this ⊢
    rw [this]
    simp [List.flatMap_cons]
theorem numS_inj : ∀ (l m : List Nat), (∀ x ∈ l, x < 4294967296) → (∀ x ∈ m, x < 4294967296) → numS l = numS m → l = m := by
  have hd : ∀ (k : List Nat) (c : UInt8), (tailJ [32] (k.map fmtN)).head? = some c → isHex c = false := by
    intro k c h
    cases k with
    | nil => simp [tailJ] at h
    | cons y k => simp [tailJ] at h; subst h; decide
  have tj : ∀ (l m : List Nat), (∀ x ∈ l, x < 4294967296) → (∀ x ∈ m, x < 4294967296) → tailJ [32] (l.map fmtN) = tailJ [32] (m.map fmtN) → l = m := by
    intro l
    induction l with
    | nil =>
      intro m _ _ h
      cases m with
      | nil => rfl
      | cons y m => simp [tailJ] at h
    | cons x l ih =>
      intro m hl hm h
      cases m with
      | nil => simp [tailJ] at h
      | cons y m =>
        have h2 : fmtN x ++ tailJ [32] (l.map fmtN) = fmtN y ++ tailJ [32] (m.map fmtN) := by simpa [tailJ] using h
        obtain ⟨e1, e2⟩ := split_tw (fmtN_all x) (fmtN_all y) (hd l) (hd m) h2
        rw [fmtN_inj (hl x (by simp)) (hm y (by simp)) e1, ih m (fun z hz => hl z (by simp [hz])) (fun z hz => hm z (by simp [hz])) e2]
  intro l m hl hm h
  cases l with
  | nil =>
    cases m with
    | nil => rfl
    | cons y m =>
      unfold numS at h
      rw [List.map_cons, join_cons] at h
      have := congrArg List.length h
      have h3 := fmtN_pos y
      cases hf : fmtN y with
      | nil => exact absurd hf h3
      | cons c r => rw [hf] at this; simp [Lib.join, List.intercalate] at this
  | cons x l =>
    cases m with
    | nil =>
      unfold numS at h
      rw [List.map_cons, join_cons] at h
      have := congrArg List.length h
      have h3 := fmtN_pos x
      cases hf : fmtN x with
      | nil => exact absurd hf h3
      | cons c r => rw [hf] at this; simp [Lib.join, List.intercalate] at this
    | cons y m =>
      unfold numS at h
      rw [List.map_cons, join_cons, List.map_cons, join_cons] at h
      obtain ⟨e1, e2⟩ := split_tw (fmtN_all x) (fmtN_all y) (hd l) (hd m) h
      rw [fmtN_inj (hl x (by simp)) (hm y (by simp)) e1, tj l m (fun z hz => hl z (by simp [hz])) (fun z hz => hm z (by simp [hz])) e2]
/-! Texts. -/
theorem esc_split : ∀ (s s' r r' : St), s.flatMap escC ++ 34 :: r = s'.flatMap escC ++ 34 :: r' → s = s' ∧ r = r' := by
  have key : ∀ (c : UInt8) (t r : St), escC c ++ t ≠ 34 :: r := by
    intro c t r h
    unfold escC at h
    split at h
    · simp at h
    · rename_i q; simp at h; exact q (.inl h.1)
  intro s
  induction s with
  | nil =>
    intro s' r r' h
    cases s' with
    | nil => simpa using h
    | cons c s' => exact absurd h.symm (by rw [List.flatMap_cons, List.append_assoc]; exact key _ _ _)
  | cons a s ih =>
    intro s' r r' h
    cases s' with
    | nil => exact absurd h (by rw [List.flatMap_cons, List.append_assoc]; exact key _ _ _)
    | cons c s' =>
      rw [List.flatMap_cons, List.flatMap_cons, List.append_assoc, List.append_assoc] at h
      have e : a = c ∧ s.flatMap escC ++ 34 :: r = s'.flatMap escC ++ 34 :: r' := by
        by_cases qa : a = 34 ∨ a = 92
        · have ea : escC a = [92, a] := if_pos qa
          by_cases qc : c = 34 ∨ c = 92
          · have ec : escC c = [92, c] := if_pos qc
            rw [ea, ec] at h
            simpa using h
          · have ec : escC c = [c] := if_neg qc
            rw [ea, ec] at h
            simp at h
            exact absurd (.inr h.1.symm) qc
        · have ea : escC a = [a] := if_neg qa
          by_cases qc : c = 34 ∨ c = 92
          · have ec : escC c = [92, c] := if_pos qc
            rw [ea, ec] at h
            simp at h
            exact absurd (.inr h.1) qa
          · have ec : escC c = [c] := if_neg qc
            rw [ea, ec] at h
            simpa using h
      obtain ⟨rfl, e2⟩ := e
      obtain ⟨rfl, e3⟩ := ih _ _ _ e2
      exact ⟨rfl, e3⟩
theorem quo_split {s s' r r' : St} (h : quoS s ++ r = quoS s' ++ r') : s = s' ∧ r = r' := by
  unfold quoS at h
  simp only [List.cons_append, List.cons.injEq, true_and, List.append_assoc, List.singleton_append] at h
  exact esc_split _ _ _ _ h
theorem quoJ_inj : ∀ (l m : List St), l ≠ [] → m ≠ [] → Lib.join (l.map quoS) [44, 32] = Lib.join (m.map quoS) [44, 32] → l = m := by
  have tj : ∀ (l m : List St), tailJ [44, 32] (l.map quoS) = tailJ [44, 32] (m.map quoS) → l = m := by
    intro l
    induction l with
    | nil =>
      intro m h
      cases m with
      | nil => rfl
      | cons y m => simp [tailJ] at h
    | cons x l ih =>
      intro m h
      cases m with
      | nil => simp [tailJ] at h
      | cons y m =>
        have h2 : quoS x ++ tailJ [44, 32] (l.map quoS) = quoS y ++ tailJ [44, 32] (m.map quoS) := by simpa [tailJ] using h
        obtain ⟨rfl, e2⟩ := quo_split h2
        rw [ih m e2]
  intro l m h1 h2 h
  cases l with
  | nil => exact absurd rfl h1
  | cons x l =>
    cases m with
    | nil => exact absurd rfl h2
    | cons y m =>
      rw [List.map_cons, join_cons, List.map_cons, join_cons] at h
      obtain ⟨rfl, e2⟩ := quo_split h
      rw [tj l m e2]
theorem idx_no {c : UInt8} : ∀ s : St, c ∉ s → Lib.index s [c] = -1
  | [], _ => rfl
  | d :: l, h => by
    have h1 : d ≠ c := fun e => h (by rw [e]; simp)
    have h2 : c ∉ l := fun q => h (List.mem_cons_of_mem _ q)
    have h3 : List.isPrefixOf [c] (d :: l) = false := by
      simp [List.isPrefixOf]
      exact fun e => h1 e.symm
    rw [Lib.index, if_neg (by rw [h3]; decide), idx_no l h2]
    rfl
theorem idx_at {c : UInt8} : ∀ (s t : St), c ∉ s → Lib.index (s ++ c :: t) [c] = s.length
  | [], t, _ => by simp [Lib.index, List.isPrefixOf]
  | d :: l, t, h => by
    have h1 : d ≠ c := fun e => h (by rw [e]; simp)
    have h2 : c ∉ l := fun q => h (List.mem_cons_of_mem _ q)
    have h3 : List.isPrefixOf [c] (d :: (l ++ c :: t)) = false := by
      simp [List.isPrefixOf]
      exact fun e => h1 e.symm
    rw [List.cons_append, Lib.index, if_neg (by rw [h3]; decide), idx_at l t h2]
    have : ((l.length : Int) == -1) = false := by rw [beq_eq_false_iff_ne]; omega
    rw [this]
    simp
theorem join_two {c : UInt8} (a b : St) (l : List St) : Lib.join (a :: b :: l) [c] = a ++ c :: Lib.join (b :: l) [c] := by
  unfold Lib.join
  simp [List.intercalate, List.intersperse]
theorem splitK_join {c : UInt8} : ∀ (ws : List St) (k : Nat), ws ≠ [] → (∀ s ∈ ws, c ∉ s) → ws.length ≤ k + 1 → Lib.splitK [c] 0 k (Lib.join ws [c]) = ws
  | [], _, h, _, _ => absurd rfl h
  | [a], k, _, h, _ => by
    rw [Lib.join_one]
    have h1 := idx_no a (h a (by simp))
    cases k with
    | zero => rfl
    | succ k => rw [Lib.splitK, if_pos (by rw [h1]; decide)]
  | a :: b :: l, k, _, h, hk => by
    obtain ⟨k, rfl⟩ : ∃ k2, k = k2 + 1 := ⟨k - 1, by simp at hk; omega⟩
    have h1 := idx_at a (Lib.join (b :: l) [c]) (h a (by simp))
    have h2 : ((a.length : Int) == -1) = false := by rw [beq_eq_false_iff_ne]; omega
    rw [join_two, Lib.splitK, h1, if_neg (by rw [h2]; decide), Int.toNat_natCast, Nat.add_zero]
    rw [List.take_left, List.length_singleton]
    have e : (a ++ c :: Lib.join (b :: l) [c]).drop (a.length + 1) = Lib.join (b :: l) [c] := by
      rw [List.drop_append]
      simp
    rw [e, splitK_join (b :: l) k (by simp) (fun s hs => h s (List.mem_cons_of_mem _ hs)) (by simp at hk ⊢; omega)]
theorem count_join {c : UInt8} : ∀ (ws : List St) (f : Nat), (∀ s ∈ ws, c ∉ s) → ws.length ≤ f → ws.length ≤ Lib.countFrom [c] f (Lib.join ws [c]) + 1
  | [], _, _, _ => by simp
  | [a], _, _, _ => by simp
  | a :: b :: l, f, h, hf => by
    obtain ⟨f, rfl⟩ : ∃ f2, f = f2 + 1 := ⟨f - 1, by simp at hf; omega⟩
    have h1 := idx_at a (Lib.join (b :: l) [c]) (h a (by simp))
    have h2 : ((a.length : Int) == -1) = false := by rw [beq_eq_false_iff_ne]; omega
    have e : (a ++ c :: Lib.join (b :: l) [c]).drop (a.length + 1) = Lib.join (b :: l) [c] := by
      rw [List.drop_append]
      simp
    rw [join_two, Lib.countFrom, h1, if_neg (by rw [h2]; decide), Int.toNat_natCast, List.length_singleton, e]
    have := count_join (b :: l) f (fun s hs => h s (List.mem_cons_of_mem _ hs)) (by simp at hf ⊢; omega)
    simp only [List.length_cons] at this ⊢
    omega
theorem join_len {c : UInt8} : ∀ ws : List St, ws.length ≤ (Lib.join ws [c]).length + 1
  | [] => by simp
  | [a] => by simp
  | a :: b :: l => by
    have := join_len (c := c) (b :: l)
    rw [join_two, List.length_append, List.length_cons]
    simp only [List.length_cons] at this ⊢
    omega
theorem split_join {c : UInt8} {ws : List St} (h0 : ws ≠ []) (h : ∀ s ∈ ws, c ∉ s) : Lib.split (Lib.join ws [c]) [c] = ws := by
  unfold Lib.split Lib.count
  exact splitK_join ws _ h0 h (count_join ws _ h (join_len ws))
def splC (c : UInt8) : St → List St
  | [] => [[]]
  | x :: s => if x = c then [] :: splC c s else match splC c s with
    | [] => [[x]]
    | y :: ys => (x :: y) :: ys
theorem splC_ne (c : UInt8) : ∀ s, splC c s ≠ []
  | [] => by simp [splC]
  | x :: s => by
    rw [splC]
    split
    · simp
    · split <;> simp
theorem splC_no (c : UInt8) : ∀ s, ∀ y ∈ splC c s, c ∉ y
  | [], y, h => by simp [splC] at h; subst h; simp
  | x :: s, y, h => by
    have ih := splC_no c s
    rw [splC] at h
    split at h
    · rcases List.mem_cons.1 h with rfl | h
      · simp
      · exact ih y h
    · rename_i hx
      split at h
      · simp at h; subst h; simp; exact fun e => hx e.symm
      · rename_i y0 ys he
        rw [he] at ih
        rcases List.mem_cons.1 h with rfl | h
        · intro q
          rcases List.mem_cons.1 q with e | q
          · exact hx e.symm
          · exact ih y0 (by simp) q
        · exact ih y (List.mem_cons_of_mem _ h)
theorem splC_join (c : UInt8) : ∀ s, Lib.join (splC c s) [c] = s
  | [] => by simp [splC, Lib.join_one]
  | x :: s => by
    have ih := splC_join c s
    rw [splC]
    split
    · rename_i hx
      subst hx
      cases he : splC x s with
      | nil => exact absurd he (splC_ne x s)
      | cons y ys => rw [he] at ih; rw [join_two, ih]; rfl
    · split
      · rename_i he; exact absurd he (splC_ne c s)
      · rename_i y ys he
        rw [he] at ih
        rw [Lib.join_cons] at ih ⊢
        rw [List.cons_append, ih]
theorem split_C (c : UInt8) (s : St) : Lib.split s [c] = splC c s := by
  have := split_join (splC_ne c s) (splC_no c s)
  rwa [splC_join] at this
theorem suf_cut {v : St} (h : Lib.hasSuffix v [0] = true) : v = Lib.trimSuffix v [0] ++ [0] := by
  have h1 : [0] <:+ v := List.isSuffixOf_iff_suffix.1 h
  obtain ⟨t, rfl⟩ := h1
  unfold Lib.trimSuffix
  rw [if_pos h]
  simp
/-! Values. -/
theorem strsP_some {v : St} {l : List St} (h : strsP v = some l) : v = Lib.join l [0] ++ [0] ∧ l ≠ [] ∧ ∀ s ∈ l, txtOk s = true := by
  unfold strsP at h
  split at h
  · rename_i q
    cases h
    rw [split_C] at q ⊢
    refine ⟨?_, splC_ne _ _, fun s hs => List.all_eq_true.1 q.2 s hs⟩
    rw [splC_join]
    exact suf_cut q.1
  · cases h
theorem cells_num : ∀ (v : St), v.length % 4 = 0 → ((cellsL v).map Int.toNat).flatMap cell4 = v ∧ ∀ x ∈ (cellsL v).map Int.toNat, x < 4294967296
  | [], _ => by simp [cellsL]
  | [a], h => by simp at h
  | [a, b], h => by simp at h
  | [a, b, c], h => by simp at h
  | a :: b :: c :: d :: r, h => by
    obtain ⟨h1, h2⟩ := cells_num r (by simp at h; omega)
    have ha := a.toNat_lt; have hb := b.toNat_lt; have hc := c.toNat_lt; have hd := d.toNat_lt
    have e : cell4 (num4 a b c d) = [a, b, c, d] := by
      unfold cell4 num4
      have e1 : UInt8.ofNat ((a.toNat * 16777216 + b.toNat * 65536 + c.toNat * 256 + d.toNat) / 16777216) = a := by
        rw [show (a.toNat * 16777216 + b.toNat * 65536 + c.toNat * 256 + d.toNat) / 16777216 = a.toNat by omega]; exact UInt8.ofNat_toNat
      have e2 : UInt8.ofNat ((a.toNat * 16777216 + b.toNat * 65536 + c.toNat * 256 + d.toNat) / 65536) = b := by
        apply UInt8.toNat_inj.1; rw [UInt8.toNat_ofNat']; omega
      have e3 : UInt8.ofNat ((a.toNat * 16777216 + b.toNat * 65536 + c.toNat * 256 + d.toNat) / 256) = c := by
        apply UInt8.toNat_inj.1; rw [UInt8.toNat_ofNat']; omega
      have e4 : UInt8.ofNat (a.toNat * 16777216 + b.toNat * 65536 + c.toNat * 256 + d.toNat) = d := by
        apply UInt8.toNat_inj.1; rw [UInt8.toNat_ofNat']; omega
      rw [e1, e2, e3, e4]
    constructor
    · rw [cellsL, List.map_cons, List.flatMap_cons, h1, Int.toNat_natCast, e]; rfl
    · intro x hx
      rw [cellsL, List.map_cons] at hx
      rcases List.mem_cons.1 hx with rfl | hx
      · rw [Int.toNat_natCast]; unfold num4; omega
      · exact h2 x hx
theorem quoJ_first {l : List St} (h : l ≠ []) : (Lib.join (l.map quoS) [44, 32]).head? = some 34 := by
  cases l with
  | nil => exact absurd rfl h
  | cons x l => rw [List.map_cons, join_cons]; rfl
theorem valT_inj {v w : St} (h : valT v = valT w) : v = w := by
  have first : ∀ u : St, u ≠ [] → (∃ l, strsP u = some l ∧ (valT u).head? = some 34 ∧ valT u = Lib.join (l.map quoS) [44, 32]) ∨ (strsP u = none ∧ u.length % 4 = 0 ∧ valT u = 60 :: (numS ((cellsL u).map Int.toNat) ++ [62])) ∨ (strsP u = none ∧ valT u = 91 :: (numS (u.map UInt8.toNat) ++ [93])) := by
    intro u hu
    unfold valT
    rw [if_neg hu]
    cases hs : strsP u with
    | some l =>
      left
      exact ⟨l, rfl, quoJ_first (strsP_some hs).2.1, rfl⟩
    | none =>
      right
      by_cases h4 : u.length % 4 = 0
      · left; exact ⟨rfl, h4, if_pos h4⟩
      · right; exact ⟨rfl, if_neg h4⟩
  have e0 : valT [] = [] := rfl
  by_cases hv : v = []
  · by_cases hw : w = []
    · rw [hv, hw]
    · rw [hv, e0] at h
      rcases first w hw with ⟨l, _, q, _⟩ | ⟨_, _, q⟩ | ⟨_, q⟩
      · rw [← h] at q; cases q
      · rw [← h] at q; cases q
      · rw [← h] at q; cases q
  · by_cases hw : w = []
    · rw [hw, e0] at h
      rcases first v hv with ⟨l, _, q, _⟩ | ⟨_, _, q⟩ | ⟨_, q⟩
      · rw [h] at q; cases q
      · rw [h] at q; cases q
      · rw [h] at q; cases q
    · rcases first v hv with ⟨l, s1, q1, r1⟩ | ⟨s1, f1, q1⟩ | ⟨s1, q1⟩ <;> rcases first w hw with ⟨m, s2, q2, r2⟩ | ⟨s2, f2, q2⟩ | ⟨s2, q2⟩
      · rw [r1, r2] at h
        have := quoJ_inj l m (strsP_some s1).2.1 (strsP_some s2).2.1 h
        rw [(strsP_some s1).1, (strsP_some s2).1, this]
      · rw [h, q2] at q1; simp at q1
      · rw [h, q2] at q1; simp at q1
      · rw [← h, q1] at q2; simp at q2
      · rw [q1, q2] at h
        have h1 : numS ((cellsL v).map Int.toNat) = numS ((cellsL w).map Int.toNat) := by simpa using h
        have h2 := numS_inj _ _ (cells_num v f1).2 (cells_num w f2).2 h1
        rw [← (cells_num v f1).1, ← (cells_num w f2).1, h2]
      · rw [q1, q2] at h; simp at h
      · rw [← h, q1] at q2; simp at q2
      · rw [q1, q2] at h; simp at h
      · rw [q1, q2] at h
        have h1 : numS (v.map UInt8.toNat) = numS (w.map UInt8.toNat) := by simpa using h
        have hb : ∀ u : St, ∀ x ∈ u.map UInt8.toNat, x < 4294967296 := fun u x hx => by
          obtain ⟨c, _, rfl⟩ := List.mem_map.1 hx
          have := c.toNat_lt; omega
        have h2 := numS_inj _ _ (hb v) (hb w) h1
        exact (List.map_inj_right (fun a b e => UInt8.toNat_inj.1 e)).1 h2
inductive Ln where
  | opn (name : St)
  | prop (name val : St)
  | cls
def lnS : Ln → St
  | .opn n => n ++ [32, 123]
  | .prop n v => if v = [] then n ++ [59] else n ++ [32, 61, 32] ++ valT v ++ [59]
  | .cls => [125, 59]
def rowS (x : Nat × Ln) : St := List.replicate x.1 9 ++ lnS x.2 ++ [10]
def textL (l : List (Nat × Ln)) : St := l.flatMap rowS
def lvS (p : Int) : List Nat → List Nat
  | [] => []
  | k :: st => if (k : Int) = p then k :: st else lvS p st
def lvL (p : Int) : List Nat → List (Nat × Ln)
  | [] => []
  | k :: st => if (k : Int) = p then [] else (st.length, .cls) :: lvL p st
def ndL (i : Nat) (n : Nod) (d : Nat) : List (Nat × Ln) := (d, .opn (if i = 0 then [47] else n.name)) :: n.props.map (fun p => (d + 1, .prop p.name p.val))
def prS (ts : Tr) : Nat → List Nat
  | 0 => []
  | i + 1 => i :: lvS (ts.getD i default).parent (prS ts i)
def prL (ts : Tr) : Nat → List (Nat × Ln)
  | 0 => []
  | i + 1 => prL ts i ++ lvL (ts.getD i default).parent (prS ts i) ++ ndL i (ts.getD i default) (lvS (ts.getD i default).parent (prS ts i)).length
def treeL (ts : Tr) : List (Nat × Ln) := prL ts ts.length ++ lvL (-1) (prS ts ts.length)
def treeT (ts : Tr) : St := textL (treeL ts)
/-! Lines are read back. -/
def nmCh (c : UInt8) : Bool := namC c || c == 47
structure LnOk (x : Ln) : Prop where
  opn : ∀ n, x = .opn n → n ≠ [] ∧ n.all nmCh = true
  prop : ∀ n v, x = .prop n v → n ≠ [] ∧ n.all nmCh = true
theorem nmCh_not : ∀ c : UInt8, nmCh c = true → c ≠ 9 ∧ c ≠ 10 ∧ c ≠ 32 ∧ c ≠ 59 ∧ c ≠ 125 := by
  intro c h
  refine ⟨?_, ?_, ?_, ?_, ?_⟩ <;> (rintro rfl; revert h; decide)
theorem all_not {n : St} (h : n.all nmCh = true) : ∀ c ∈ n, c ≠ 9 ∧ c ≠ 10 ∧ c ≠ 32 ∧ c ≠ 59 ∧ c ≠ 125 := fun c hc => nmCh_not c (List.all_eq_true.1 h c hc)
theorem isHex_not : ∀ c : UInt8, isHex c = true → c ≠ 10 := by
  intro c h
  rintro rfl; revert h; decide
theorem fmtN_no (n : Nat) : (10 : UInt8) ∉ fmtN n := fun q => isHex_not 10 (List.all_eq_true.1 (fmtN_all n) _ q) rfl
theorem join_no {c : UInt8} {sep : St} (hs : c ∉ sep) : ∀ l : List St, (∀ x ∈ l, c ∉ x) → c ∉ Lib.join l sep
  | [], _ => by simp [Lib.join, List.intercalate]
  | x :: l, h => by
    rw [join_cons]
    intro q
    rcases List.mem_append.1 q with q | q
    · exact h x (by simp) q
    · unfold tailJ at q
      obtain ⟨y, hy, q⟩ := List.mem_flatMap.1 q
      rcases List.mem_append.1 q with q | q
      · exact hs q
      · exact h y (by simp [hy]) q
theorem numS_no (l : List Nat) : (10 : UInt8) ∉ numS l := join_no (by decide) _ (fun x hx => by obtain ⟨n, _, rfl⟩ := List.mem_map.1 hx; exact fmtN_no n)
theorem quoS_no {s : St} (h : txtOk s = true) : (10 : UInt8) ∉ quoS s := by
  unfold quoS
  intro q
  rcases List.mem_cons.1 q with q | q
  · exact absurd q (by decide)
  rcases List.mem_append.1 q with q | q
  · obtain ⟨c, hc, q⟩ := List.mem_flatMap.1 q
    have hcc : c ≠ 10 := by
      rintro rfl
      unfold txtOk at h
      rw [Bool.and_eq_true] at h
      have := List.all_eq_true.1 h.2 _ hc
      revert this; decide
    unfold escC at q
    split at q
    · simp at q; exact hcc q.symm
    · simp at q; exact hcc q.symm
  · simp at q
theorem valT_no (v : St) : (10 : UInt8) ∉ valT v := by
  unfold valT
  split
  · simp
  · split
    · rename_i l hl
      exact join_no (by decide) _ (fun x hx => by obtain ⟨s, hs, rfl⟩ := List.mem_map.1 hx; exact quoS_no ((strsP_some hl).2.2 s hs))
    · split
      · intro q
        rcases List.mem_cons.1 q with q | q
        · exact absurd q (by decide)
        rcases List.mem_append.1 q with q | q
        · exact numS_no _ q
        · simp at q
      · intro q
        rcases List.mem_cons.1 q with q | q
        · exact absurd q (by decide)
        rcases List.mem_append.1 q with q | q
        · exact numS_no _ q
        · simp at q
theorem lnS_no {x : Ln} (h : LnOk x) : (10 : UInt8) ∉ lnS x := by
  cases x with
  | opn n =>
    have := all_not (h.opn n rfl).2
    intro q
    rcases List.mem_append.1 q with q | q
    · exact (this _ q).2.1 rfl
    · simp at q
  | prop n v =>
    have := all_not (h.prop n v rfl).2
    intro q
    simp only [lnS] at q
    split at q
    · rcases List.mem_append.1 q with q | q
      · exact (this _ q).2.1 rfl
      · simp at q
    · rcases List.mem_append.1 q with q | q
      · rcases List.mem_append.1 q with q | q
        · rcases List.mem_append.1 q with q | q
          · exact (this _ q).2.1 rfl
          · simp at q
        · exact valT_no v q
      · simp at q
  | cls => simp [lnS]
theorem lnS_first {x : Ln} (h : LnOk x) : ∃ c r, lnS x = c :: r ∧ c ≠ 9 := by
  cases x with
  | opn n =>
    obtain ⟨h1, h2⟩ := h.opn n rfl
    cases n with
    | nil => exact absurd rfl h1
    | cons c n => exact ⟨c, n ++ [32, 123], rfl, (all_not h2 c (by simp)).1⟩
  | prop n v =>
    obtain ⟨h1, h2⟩ := h.prop n v rfl
    cases n with
    | nil => exact absurd rfl h1
    | cons c n =>
      simp only [lnS]
      split
      · exact ⟨c, n ++ [59], rfl, (all_not h2 c (by simp)).1⟩
      · exact ⟨c, n ++ [32, 61, 32] ++ valT v ++ [59], rfl, (all_not h2 c (by simp)).1⟩
  | cls => exact ⟨125, [59], rfl, by decide⟩
theorem lnS_inj {x y : Ln} (hx : LnOk x) (hy : LnOk y) (h : lnS x = lnS y) : x = y := by
  have hd1 : ∀ (r : St) (c : UInt8), ((32 : UInt8) :: r).head? = some c → nmCh c = false := by intro r c q; simp at q; subst q; decide
  have hd2 : ∀ (r : St) (c : UInt8), ((59 : UInt8) :: r).head? = some c → nmCh c = false := by intro r c q; simp at q; subst q; decide
  have one : ∀ z : Ln, LnOk z → (∃ n, z = .opn n ∧ n.all nmCh = true ∧ lnS z = n ++ 32 :: [123]) ∨ (∃ n, z = .prop n [] ∧ n.all nmCh = true ∧ lnS z = n ++ 59 :: []) ∨ (∃ n v, z = .prop n v ∧ v ≠ [] ∧ n.all nmCh = true ∧ lnS z = n ++ 32 :: (61 :: 32 :: (valT v ++ [59]))) ∨ (z = .cls ∧ lnS z = [] ++ 125 :: [59]) := by
    intro z hz
    cases z with
    | opn n => exact .inl ⟨n, rfl, (hz.opn n rfl).2, rfl⟩
    | prop n v =>
      by_cases hv : v = []
      · subst hv
        exact .inr (.inl ⟨n, rfl, (hz.prop n [] rfl).2, rfl⟩)
      · refine .inr (.inr (.inl ⟨n, v, rfl, hv, (hz.prop n v rfl).2, ?_⟩))
        simp only [lnS]
        rw [if_neg hv]
        simp
    | cls => exact .inr (.inr (.inr ⟨rfl, rfl⟩))
  have hd3 : ∀ (r : St) (c : UInt8), ((125 : UInt8) :: r).head? = some c → nmCh c = false := by intro r c q; simp at q; subst q; decide
  rcases one x hx with ⟨n, rfl, a1, e1⟩ | ⟨n, rfl, a1, e1⟩ | ⟨n, v, rfl, v1, a1, e1⟩ | ⟨rfl, e1⟩ <;> rcases one y hy with ⟨m, rfl, a2, e2⟩ | ⟨m, rfl, a2, e2⟩ | ⟨m, w, rfl, w1, a2, e2⟩ | ⟨rfl, e2⟩ <;> (have h := e1.symm.trans (h.trans e2))
  · obtain ⟨rfl, _⟩ := split_tw a1 a2 (hd1 _) (hd1 _) h; rfl
  · obtain ⟨_, q⟩ := split_tw a1 a2 (hd1 _) (hd2 _) h; simp at q
  · obtain ⟨_, q⟩ := split_tw a1 a2 (hd1 _) (hd1 _) h; simp at q
  · obtain ⟨_, q⟩ := split_tw a1 rfl (hd1 _) (hd3 _) h; simp at q
  · obtain ⟨_, q⟩ := split_tw a1 a2 (hd2 _) (hd1 _) h; simp at q
  · obtain ⟨rfl, _⟩ := split_tw a1 a2 (hd2 _) (hd2 _) h; rfl
  · obtain ⟨_, q⟩ := split_tw a1 a2 (hd2 _) (hd1 _) h; simp at q
  · obtain ⟨_, q⟩ := split_tw a1 rfl (hd2 _) (hd3 _) h; simp at q
  · obtain ⟨_, q⟩ := split_tw a1 a2 (hd1 _) (hd1 _) h; simp at q
  · obtain ⟨_, q⟩ := split_tw a1 a2 (hd1 _) (hd2 _) h; simp at q
  · obtain ⟨rfl, q⟩ := split_tw a1 a2 (hd1 _) (hd1 _) h
    have q2 : valT v ++ [59] = valT w ++ [59] := by simpa using q
    have q3 := List.append_cancel_right q2
    rw [valT_inj q3]
  · obtain ⟨_, q⟩ := split_tw a1 rfl (hd1 _) (hd3 _) h; simp at q
  · obtain ⟨_, q⟩ := split_tw rfl a2 (hd3 _) (hd1 _) h; simp at q
  · obtain ⟨_, q⟩ := split_tw rfl a2 (hd3 _) (hd2 _) h; simp at q
  · obtain ⟨_, q⟩ := split_tw rfl a2 (hd3 _) (hd1 _) h; simp at q
  · rfl
def is9 (c : UInt8) : Bool := c == 9
def no10 (c : UInt8) : Bool := c != 10
theorem rowS_inj {x y : Nat × Ln} (hx : LnOk x.2) (hy : LnOk y.2) {r r' : St} (h : rowS x ++ r = rowS y ++ r') : x = y ∧ r = r' := by
  obtain ⟨d, x⟩ := x
  obtain ⟨e, y⟩ := y
  unfold rowS at h
  simp only [List.append_assoc, List.singleton_append] at h hx hy
  have rep : ∀ k : Nat, (List.replicate k (9 : UInt8)).all is9 = true := by intro k; rw [List.all_eq_true]; intro c hc; rw [List.eq_of_mem_replicate hc]; rfl
  have fst : ∀ (z : Ln), LnOk z → ∀ (t : St) (c : UInt8), (lnS z ++ t).head? = some c → is9 c = false := by
    intro z hz t c q
    obtain ⟨c0, r0, e0, n0⟩ := lnS_first hz
    rw [e0] at q
    simp at q
    subst q
    unfold is9
    rw [beq_eq_false_iff_ne]; exact n0
  obtain ⟨h1, h2⟩ := split_tw (rep d) (rep e) (fst x hx _) (fst y hy _) h
  have hde : d = e := by have := congrArg List.length h1; simpa using this
  have no : ∀ (z : Ln), LnOk z → (lnS z).all no10 = true := by
    intro z hz
    rw [List.all_eq_true]
    intro c hc
    unfold no10
    rw [bne_iff_ne]
    rintro rfl
    exact lnS_no hz hc
  have h10 : ∀ (t : St) (c : UInt8), ((10 : UInt8) :: t).head? = some c → no10 c = false := by intro t c q; simp at q; subst q; decide
  obtain ⟨h3, h4⟩ := split_tw (no x hx) (no y hy) (h10 _) (h10 _) h2
  have h5 := lnS_inj hx hy h3
  refine ⟨by rw [hde, h5], by simpa using h4⟩
theorem textL_inj : ∀ (l m : List (Nat × Ln)), (∀ x ∈ l, LnOk x.2) → (∀ x ∈ m, LnOk x.2) → textL l = textL m → l = m
  | [], [], _, _, _ => rfl
  | [], y :: m, _, _, h => by
    have := congrArg List.length h
    simp [textL, rowS] at this
  | x :: l, [], _, _, h => by
    have := congrArg List.length h
    simp [textL, rowS] at this
  | x :: l, y :: m, hl, hm, h => by
    unfold textL at h
    rw [List.flatMap_cons, List.flatMap_cons] at h
    obtain ⟨rfl, h2⟩ := rowS_inj (hl x (by simp)) (hm y (by simp)) h
    rw [textL_inj l m (fun z hz => hl z (by simp [hz])) (fun z hz => hm z (by simp [hz])) h2]
end Go.Proofs.YtgembejpiecfcaaGreatDoor
