/- The operations of one region of a function, found by its number. A region that draws its order, by an invariant that every ready operation keeps. (several texts in one, by wip/tools/merge.py) -/
import Derived.Test.YtadldblpkgackaaGreatDoorKa
import Derived.OpenShut
import Derived.Maps.AppendAt
import Derived.Deep.RegionLaw
import Derived.Deep.AppendLies
import Derived.Deep.DeepCutAuto
/-! The operations of one region of a function, found by its number. -/
set_option linter.unusedVariables false
set_option linter.unusedSimpArgs false
namespace Go.Proofs.YtadldblpkgackaaGreatDoor
open Go.RowKit
/-- The operations of region id. -/
def regOps (id : Nat) : Code → Option (Array Oper)
  | .region i ops _ => bif Nat.beq i id then some ops else none
  | .seq a b => match regOps id a with | some o => some o | none => regOps id b
  | .cond _ a b => match regOps id a with | some o => some o | none => regOps id b
  | .block _ c => regOps id c
  | .loop c => regOps id c
  | .scope c => regOps id c
  | .rangeFunc _ _ a b => match regOps id a with | some o => some o | none => regOps id b
  | _ => none
def regIn (id : Nat) (f : Func) : Array Oper := ((f.body.bind (regOps id))).getD #[]
theorem wp_code_eq {P : Program} {c c' : Code} {Q : Exit → Act → World → Prop} {a : Act} {w : World} (h : c = c') (hw : c.wp P Q a w) : c'.wp P Q a w := h ▸ hw
end Go.Proofs.YtadldblpkgackaaGreatDoor

/-! A region that draws its order, by an invariant that every ready operation keeps. -/
set_option linter.unusedVariables false
set_option linter.unusedSimpArgs false
namespace Go.Proofs.YtadldblpkgackaaGreatDoor
open Go.RowKit
section
variable {P : Program} {ops : Array Oper} {md : Region.Mode}
def undone (done : Array Bool) : Nat := done.toList.count false
theorem undone_set {done : Array Bool} {i : Nat} (h : done.getD i true = false) : undone (done.setIfInBounds i true) + 1 = undone done := by
  have hi : i < done.size := by
    rcases Nat.lt_or_ge i done.size with q | q
    · exact q
    · simp [Array.getD, Nat.not_lt.2 q] at h
  have hd : done[i] = false := by simpa [Array.getD, hi] using h
  unfold undone
  rw [Array.toList_setIfInBounds, List.count_set (by simpa using hi)]
  have h1 : done.toList[i]'(by simpa using hi) = false := by simpa using hd
  have h2 : 0 < done.toList.count false := List.count_pos_iff.2 (by rw [← h1]; exact List.getElem_mem _)
  simp only [h1]
  rw [if_pos (by decide), if_neg (by decide)]
  omega
theorem any_of_inv {Q : Exit → Act → World → Prop} {Inv : Array Bool → Act → World → Prop} (hend : ∀ done a w, Region.ready md ops done = [] → Inv done a w → Q .normal a w)
    (step : ∀ done a w i, i ∈ Region.ready md ops done → Inv done a w → wpOp P ops Q i (fun a' w' => Inv (done.setIfInBounds i true) a' w') a w) (fuel : Nat) :
    ∀ done a w, undone done ≤ fuel → Inv done a w → wpAny P md ops Q fuel done a w := by
  induction fuel with
  | zero =>
    intro done a w hu h
    have hr : Region.ready md ops done = [] := by
      rcases hq : Region.ready md ops done with _ | ⟨i, t⟩
      · rfl
      · have hi : i ∈ Region.ready md ops done := by rw [hq]; simp
        have := undone_set (mem_ready.1 hi).1
        omega
    exact ⟨hr, hend _ _ _ hr h⟩
  | succ fuel ih =>
    intro done a w hu h
    refine ⟨fun hr => hend _ _ _ hr h, fun i hi => ?_⟩
    have hc := undone_set (mem_ready.1 hi).1
    exact wpOp_mono (fun a' w' h' => ih _ a' w' (by omega) h') (step done a w i hi h)
theorem wp_region_inv {id : Nat} {Q : Exit → Act → World → Prop} {a : Act} {w : World} (Inv : Array Bool → Act → World → Prop) (hm : P.follows .mixedOrders = true) (h0 : Inv (Array.replicate ops.size false) a w.drew)
    (step : ∀ done a w i, i ∈ Region.ready .any ops done → Inv done a w → wpOp P ops Q i (fun a' w' => Inv (done.setIfInBounds i true) a' w') a w)
    (hend : ∀ done a w, Region.ready .any ops done = [] → Inv done a w → Q .normal a w) : (Code.region id ops true).wp P Q a w :=
  wp_region_any hm (any_of_inv hend step ops.size _ _ _ (by simp [undone]) h0)
end
section
variable {P : Program}
/-- The operations that one waits for. -/
def depIdx (o : Oper) : List Nat := (o.after.toList.filter (Region.binds .any)).map (·.on)
def Deps (done : Array Bool) (o : Oper) : Prop := ∀ j, (depIdx o).contains j = true → done.getD j false = true
theorem deps_of {done : Array Bool} {o : Oper} (h : ∀ e ∈ o.after, Region.binds .any e = true → done.getD e.on false = true) : Deps done o := by
  intro j hj
  simp only [depIdx, List.contains_iff_mem, List.mem_map, List.mem_filter, Array.mem_toList_iff] at hj
  obtain ⟨e, ⟨h1, h2⟩, rfl⟩ := hj
  exact h e h1 h2
/-- Each operation, as soon as those that it waits for are done, keeps the invariant. -/
def StepsI (P : Program) (ops : Array Oper) (Q : Exit → Act → World → Prop) (Inv : Array Bool → Act → World → Prop) : List Oper → Nat → Prop
  | [], _ => True
  | o :: l, i => (∀ done a w, done.size = ops.size → done.getD i true = false → Deps done o → Inv done a w → ∀ K : Act → World → Prop, (∀ a' w', Inv (done.setIfInBounds i true) a' w' → K a' w') → if Region.wanted o (yielded ops a.tmps) = true then Oper.wp P o a w K Q else K (a.put o.dst undef) w) ∧ StepsI P ops Q Inv l (i + 1)
theorem StepsI.at {ops : Array Oper} {Q : Exit → Act → World → Prop} {Inv : Array Bool → Act → World → Prop} : ∀ (l : List Oper) (k : Nat), StepsI P ops Q Inv l k → ∀ i o, l[i]? = some o → ∀ done a w, done.size = ops.size → done.getD (k + i) true = false → Deps done o → Inv done a w → ∀ K : Act → World → Prop, (∀ a' w', Inv (done.setIfInBounds (k + i) true) a' w' → K a' w') → if Region.wanted o (yielded ops a.tmps) = true then Oper.wp P o a w K Q else K (a.put o.dst undef) w
  | [], _, _, i, o, h => by simp at h
  | o' :: l, k, ⟨h0, hs⟩, i, o, h => by
    cases i with
    | zero => simp at h; subst h; exact h0
    | succ i =>
      have := StepsI.at l (k + 1) hs i o (by simpa using h)
      rw [show k + 1 + i = k + (i + 1) by omega] at this
      exact this
/-- Operations wait for earlier ones alone. -/
def earlier : List Oper → Nat → Bool
  | [], _ => true
  | o :: l, i => (depIdx o).all (fun j => Nat.blt j i) && earlier l (i + 1)
theorem earlier_at : ∀ (l : List Oper) (k : Nat), earlier l k = true → ∀ i o, l[i]? = some o → ∀ j ∈ depIdx o, j < k + i
  | [], _, _, i, o, h => by simp at h
  | o' :: l, k, he, i, o, h => by
    simp only [earlier, Bool.and_eq_true, List.all_eq_true] at he
    cases i with
    | zero =>
      simp at h; subst h
      intro j hj
      have := he.1 j hj
      simpa [Nat.blt_eq] using this
    | succ i =>
      intro j hj
      have := earlier_at l (k + 1) he.2 i o (by simpa using h) j hj
      omega
theorem all_done {l : List Oper} {done : Array Bool} (he : earlier l 0 = true) (hs : done.size = l.length) (hr : Region.ready .any l.toArray done = []) : ∀ i, i < l.length → done.getD i false = true := by
  intro i
  induction i using Nat.strongRecOn with
  | ind i ih =>
    intro hi
    have hi' : i < done.size := by omega
    cases hd : done[i] with
    | true => simp [Array.getD, hi', hd]
    | false =>
      exfalso
      have : i ∈ Region.ready .any l.toArray done := by
        refine mem_ready.2 ⟨by simp [Array.getD, hi', hd], l[i], by simp [hi], fun e h1 h2 => ?_⟩
        have hm : e.on ∈ depIdx l[i] := by
          simp only [depIdx, List.mem_map, List.mem_filter, Array.mem_toList_iff]
          exact ⟨e, ⟨h1, h2⟩, rfl⟩
        have := earlier_at l 0 he i l[i] (by simp [hi]) e.on hm
        exact ih e.on (by omega) (by omega)
      rw [hr] at this
      simp at this
theorem wp_region_steps {id : Nat} {l : List Oper} {Q : Exit → Act → World → Prop} {a : Act} {w : World} (Inv : Array Bool → Act → World → Prop) (hm : P.follows .mixedOrders = true) (he : earlier l 0 = true) (h0 : Inv (Array.replicate l.length false) a w.drew)
    (step : StepsI P l.toArray Q Inv l 0) (hend : ∀ done a w, (∀ i, i < l.length → done.getD i false = true) → Inv done a w → Q .normal a w) : (Code.region id l.toArray true).wp P Q a w := by
  refine wp_region_inv (fun done a w => done.size = l.length ∧ Inv done a w) hm ⟨by simp, by simpa using h0⟩ (fun done a w i hi ⟨hs, h⟩ => ?_) (fun done a w hr ⟨hs, h⟩ => hend done a w (all_done he hs hr) h)
  obtain ⟨h1, o, h2, h3⟩ := mem_ready.1 hi
  refine wpOp_step h2 fun K hK => ?_
  have := StepsI.at l 0 step i o (by simpa using h2) done a w (by simpa using hs) (by simpa using h1) (deps_of h3) h K (fun a' w' q => hK a' w' ⟨by simpa using hs, by simpa using q⟩)
  exact this
theorem getD_set_same {done : Array Bool} {i : Nat} (h : i < done.size) : (done.setIfInBounds i true).getD i false = true := by simp [Array.getD, h]
theorem done_old {done : Array Bool} {i j : Nat} (hj : (done.setIfInBounds i true).getD j false = true) (h : i ≠ j) : done.getD j false = true := by
  rw [getD_set_ne false h] at hj; exact hj
end
end Go.Proofs.YtadldblpkgackaaGreatDoor

/-! A tape is made of the numbers that came in. -/
set_option linter.unusedVariables false
set_option linter.unusedSimpArgs false
namespace Go.Proofs.YtadldblpkgackaaGreatDoor
open Go.RowKit

/-- A list of numbers that came in: nil, or a row of cap cells that hold the numbers zs. -/
def RowIn (w : World) (a : Option Addr) (len cap : Nat) (zs : List Int) : Prop :=
  (a = none ∧ len = 0 ∧ cap = 0 ∧ zs = []) ∨
  ∃ x, a = some x ∧ len ≤ cap ∧ cap ≤ maxLen ∧ zs.length = cap ∧ (∀ i, i < zs.length → w.cell? (x.add i) = some (.int .i64 (zs.getD i 0))) ∧ ∀ n ∈ zs, (Lit.int .i64 n).wf = true
theorem addr_of_cell {w : World} {x : Addr} {v : Value} (h : w.cell? x = some v) : x = ⟨x.block, x.off, none⟩ := by
  cases x with
  | mk b o s =>
    cases s with
    | none => rfl
    | some k => simp only [World.cell?] at h; split at h <;> simp at h
theorem RowIn.ints {w : World} {a : Option Addr} {len cap : Nat} {zs : List Int} (h : RowIn w a len cap zs) (b : Nat) (hb : w.heap.size ≤ b) (n : Nat) (hn : n ≤ len) : IntsIn w b a n := by
  intro k hk
  rcases h with ⟨_, h2, _⟩ | ⟨x, rfl, h1, h2, h3, h4, h5⟩
  · omega
  · have c0 := h4 0 (by omega)
    have ck := h4 k (by omega)
    simp only [Addr.add, if_true] at c0
    have hx := addr_of_cell c0
    refine ⟨x.block, x.off, zs.getD k 0, by rw [← hx], ?_, ?_, ?_⟩
    · rw [hx] at c0; have : x.block < w.heap.size := has_of_cell c0; omega
    · simp only [Addr.add] at ck
      split at ck
      · rename_i e; subst e; rw [hx] at ck; simpa using ck
      · exact ck
    · have hmem : zs.getD k 0 ∈ zs := by
        rw [List.getD_eq_getElem?_getD, List.getElem?_eq_getElem (by omega)]; simp
      have := h5 _ hmem
      have := bounds_i64 this
      omega

/-- The tape is new, and nothing that was there has turned. -/
def NewTape (w : World) (len : Nat) (e : Ending) (w' : World) : Prop :=
  ∃ b n, e = .returned (.pointer (some ⟨b, 0, none⟩)) ∧ Tape w' b 0 n ∧ Gr w w' ∧ w.heap.size ≤ b ∧ n ≤ len

set_option maxHeartbeats 400000 in
theorem newTape_any (w : World) (a : Option Addr) (len cap : Nat) (zs : List Int) (h : RowIn w a len cap zs) :
    Calls Tryz.prog 13 #[.slice a len cap] w (NewTape w len) := by
  have hi := h.ints
  have H := Lib.hid h
  rcases h with ⟨rfl, rfl, rfl, rfl⟩ | ⟨x, rfl, h1, h2, h3, _, _⟩
  · clear hi
    go_enter Tryz.func13, Tryz.ntmps13
    go_wp2
    go_ret
    refine ⟨w.heap.size, 0, rfl, ⟨none, 0, by simp [go_sem], by simp [go_sem], by simp [go_sem], by omega, by omega, by omega, fun k hk => by omega⟩, (Gr.refl w).alloc _, Nat.le_refl _, by omega⟩
  · unfold maxLen at h2
    have HI := Lib.hid hi
    clear hi h3
    by_cases hl : len ≤ 500
    · go_enter Tryz.func13, Tryz.ntmps13
      go_wp2
      go_ret
      refine ⟨w.heap.size, len, rfl, ⟨some x, cap, by simp [go_sem], by simp [go_sem], by simp [go_sem], by omega, by omega, by omega, ?_⟩, (Gr.refl w).alloc _, Nat.le_refl _, by omega⟩
      exact (HI.out w.heap.size (Nat.le_refl _) len (Nat.le_refl _)).gr ((Gr.refl w).alloc _)
    · go_enter Tryz.func13, Tryz.ntmps13
      go_wp2
      go_ret
      refine ⟨w.heap.size, 500, rfl, ⟨some x, cap, by simp [go_sem], by simp [go_sem], by simp [go_sem], by omega, by omega, by omega, ?_⟩, (Gr.refl w).alloc _, Nat.le_refl _, by omega⟩
      exact (HI.out w.heap.size (Nat.le_refl _) 500 (by omega)).gr ((Gr.refl w).alloc _)
end Go.Proofs.YtadldblpkgackaaGreatDoor

/-! Worlds in which a tape has moved on and memory has grown (for the laws on rates). -/
set_option linter.unusedVariables false
set_option linter.unusedSimpArgs false
namespace Go.Proofs.YtadldblpkgackaaGreatDoor
open Go.RowKit
open Classical

def Tp (w : World) (b len : Nat) : Prop := ∃ p, Tape w b p len
/-- The tape in block b has moved, and memory has grown. -/
def Mv (b len : Nat) (w w' : World) : Prop := ∃ p : Int, 0 ≤ p ∧ p ≤ (len : Int) ∧ Gr (w.setCell ⟨b, 1, none⟩ (.int .i64 p)) w'
theorem size_set (w : World) (a : Addr) (v : Value) : (w.setCell a v).heap.size = w.heap.size := by simp [World.setCell]
theorem Tp.has {w : World} {b len : Nat} (h : Tp w b len) : b < w.heap.size := h.elim fun _ h => h.has
theorem Mv.tp {w w' : World} {b len : Nat} (h : Mv b len w w') (ht : Tp w b len) : Tp w' b len := by
  obtain ⟨p, h0, h1, hg⟩ := h
  obtain ⟨q, ht⟩ := ht
  exact ⟨p, (ht.set h0 h1).gr hg⟩
theorem Tp.gr {w w' : World} {b len : Nat} (h : Tp w b len) (hg : Gr w w') : Tp w' b len := h.elim fun p h => ⟨p, h.gr hg⟩
theorem Mv.of_gr {w w' : World} {b len : Nat} (ht : Tp w b len) (hg : Gr w w') : Mv b len w w' := by
  obtain ⟨p, ht⟩ := ht
  obtain ⟨ao, cap, c0, c1, c2, c3, c4, c5, c6⟩ := ht
  exact ⟨p, c3, c4, by rw [setCell_id c1]; exact hg⟩
theorem Mv.refl {w : World} {b len : Nat} (ht : Tp w b len) : Mv b len w w := .of_gr ht (Gr.refl w)
theorem gr_setCell {w w' : World} {b : Nat} (hg : Gr w w') (hb : b < w.heap.size) (v : Value) : Gr (w.setCell ⟨b, 1, none⟩ v) (w'.setCell ⟨b, 1, none⟩ v) := by
  have h := hg.below
  refine .of_below ⟨h.os, h.tape, h.output, by rw [size_set, size_set]; exact h.size, fun k hk => ?_⟩
  rw [size_set] at hk
  have := h.block k hk
  simp only [World.setCell, Array.getElem?_modify, this]
theorem Mv.trans {w w1 w2 : World} {b len : Nat} (h : Mv b len w w1) (hb : b < w.heap.size) (k : Mv b len w1 w2) : Mv b len w w2 := by
  obtain ⟨p, h0, h1, hg⟩ := h
  obtain ⟨q, k0, k1, kg⟩ := k
  refine ⟨q, k0, k1, ?_⟩
  have := gr_setCell hg (by rw [size_set]; exact hb) (.int .i64 q)
  rw [setCell_setCell] at this
  exact this.trans kg
theorem Mv.gr {w w1 w2 : World} {b len : Nat} (h : Mv b len w w1) (k : Gr w1 w2) : Mv b len w w2 := by
  obtain ⟨p, h0, h1, hg⟩ := h
  exact ⟨p, h0, h1, hg.trans k⟩
theorem Mv.alloc {w w1 : World} {b len : Nat} (o : Obj) (h : Mv b len w w1) : Mv b len w (w1.alloc o) := h.gr ((Gr.refl _).alloc o)
theorem Mv.setc {w w1 : World} {b len B o : Nat} {v : Value} (h : Mv b len w w1) (hB : w.heap.size ≤ B) : Mv b len w (w1.setCell ⟨B, o, none⟩ v) := by
  obtain ⟨p, h0, h1, hg⟩ := h
  exact ⟨p, h0, h1, hg.setCell (a := ⟨B, o, none⟩) (by rw [size_set]; exact hB) v⟩
theorem Mv.size {w w1 : World} {b len : Nat} (h : Mv b len w w1) : w.heap.size ≤ w1.heap.size := by
  obtain ⟨p, h0, h1, hg⟩ := h
  have := hg.size; rwa [size_set] at this
theorem Mv.block {w w1 : World} {b len k : Nat} (h : Mv b len w w1) (hk : k < w.heap.size) (hb : k ≠ b) : w1.heap[k]? = w.heap[k]? := by
  obtain ⟨p, h0, h1, hg⟩ := h
  rw [hg.below.block k (by rw [size_set]; exact hk)]
  simp [World.setCell, Array.getElem?_modify, Ne.symm hb]
theorem Mv.cell {w w1 : World} {b len k o : Nat} {s : Option Nat} {v : Value} (h : Mv b len w w1) (hb : k ≠ b) (c : w.cell? ⟨k, o, s⟩ = some v) : w1.cell? ⟨k, o, s⟩ = some v :=
  (World.cell?_of_block (w := w) (h.block (has_of_cell c) hb)).trans c
theorem Mv.row {w w1 : World} {b len B T : Nat} {vs : List Value} (h : Mv b len w w1) (r : Row w B T vs) (hb : B ≠ b) : Row w1 B T vs := (h.block r.has hb).trans r
/-- A number is read. -/
def ReadsM (b len : Nat) (w : World) (S : Int → Prop) (e : Ending) (w' : World) : Prop := ∃ x, e = .returned (.int .i64 x) ∧ S x ∧ Mv b len w w'
theorem Reads.m {b len : Nat} {w : World} {S : Int → Prop} {e : Ending} {w' : World} (h : Reads w b len S e w') : ReadsM b len w S e w' := by
  obtain ⟨x, p, e, hs, h0, h1, hg⟩ := h
  exact ⟨x, e, hs, p, h0, h1, hg⟩
theorem nM_any (w : World) (b len : Nat) (n : Int) (h : Tp w b len) (hn : 1 ≤ n) (hn1 : n ≤ 9223372036854775807) :
    Calls Tryz.prog 17 #[.pointer (some ⟨b, 0, none⟩), .int .i64 n] w (ReadsM b len w (InTo 0 (n - 1))) :=
  h.elim fun p h => (n_any w b len p n h hn hn1).mono fun _ _ q => q.m
set_option maxHeartbeats 400000 in
theorem rangeM_any (w : World) (b len : Nat) (lo hi : Int) (h : Tp w b len) (hl : -1000 ≤ lo) (hh : lo ≤ hi) (hh1 : hi ≤ 1000000) :
    Calls Tryz.prog 62 #[.pointer (some ⟨b, 0, none⟩), .int .i64 lo, .int .i64 hi] w (ReadsM b len w (InTo lo hi)) := by
  have H := Lib.hid h
  clear h
  go_enter Tryz.func62, Tryz.ntmps62
  go_wp2_with fail
  refine (nM_any _ b len _ H.out (by omega) (by omega)).mono ?_
  rintro e w' ⟨x, rfl, hx, hm⟩
  have hx0 := hx.1
  have hx1 := hx.2
  have M := Lib.hid hm
  clear hm hx
  go_wp2_with fail
  go_ret
  exact ⟨lo + x, rfl, ⟨by omega, by omega⟩, M.out⟩
theorem Mv.out {w W w' : World} {b len : Nat} (hg : Gr w W) (h : Mv b len W w') (hb : w.heap.size ≤ b) : Gr w w' := by
  obtain ⟨p, h0, h1, g⟩ := h
  exact (hg.setc hb).trans g
end Go.Proofs.YtadldblpkgackaaGreatDoor

/-! Rows of cells of the call's own, with spare room, beside a tape that moves; what is appended and where it lies. Out of XRow, XMk, XMkA, XRox (wip/tools/own.py). -/
set_option linter.unusedVariables false
set_option linter.unusedSimpArgs false
namespace Go.Proofs.YtadldblpkgackaaGreatDoor
open Go.RowKit

def bools (vs : List Bool) : List Value := vs.map Value.bool
def nums (vs : List Int) : List Value := vs.map (Value.int .i64)
theorem bools_len (vs : List Bool) : (bools vs).length = vs.length := by simp [bools]
theorem nums_len (vs : List Int) : (nums vs).length = vs.length := by simp [nums]
theorem bools_set (vs : List Bool) (k : Nat) (b : Bool) : (bools vs).set k (.bool b) = bools (vs.set k b) := by simp [bools, List.map_set]
theorem nums_set (vs : List Int) (k : Nat) (b : Int) : (nums vs).set k (.int .i64 b) = nums (vs.set k b) := by simp [nums, List.map_set]
theorem Row.bat {w : World} {B T : Nat} {vs : List Bool} (h : Row w B T (bools vs)) (k : Nat) (hk : k < vs.length) : w.cell? ⟨B, k, none⟩ = some (.bool vs[k]) := by
  rw [h.cell k (by simpa [bools] using hk)]; simp [bools]
theorem Row.iat {w : World} {B T : Nat} {vs : List Int} (h : Row w B T (nums vs)) (k : Nat) (hk : k < vs.length) : w.cell? ⟨B, k, none⟩ = some (.int .i64 vs[k]) := by
  rw [h.cell k (by simpa [nums] using hk)]; simp [nums]
theorem Row.bset {w : World} {B T : Nat} {vs : List Bool} (h : Row w B T (bools vs)) (k : Nat) (b : Bool) : Row (w.setCell ⟨B, k, none⟩ (.bool b)) B T (bools (vs.set k b)) := by
  rw [← bools_set]; exact h.set k _
theorem Row.iset {w : World} {B T : Nat} {vs : List Int} (h : Row w B T (nums vs)) (k : Nat) (b : Int) : Row (w.setCell ⟨B, k, none⟩ (.int .i64 b)) B T (nums (vs.set k b)) := by
  rw [← nums_set]; exact h.set k _
def RowS (w : World) (B T : Nat) (vs : List Value) : Prop := ∃ rest, Row w B T (vs ++ rest)
theorem Row.s {w : World} {B T : Nat} {vs : List Value} (h : Row w B T vs) : RowS w B T vs := ⟨[], by simpa using h⟩
theorem RowS.cell {w : World} {B T : Nat} {vs : List Value} (h : RowS w B T vs) (k : Nat) (hk : k < vs.length) : w.cell? ⟨B, k, none⟩ = some vs[k] := by
  obtain ⟨rest, h⟩ := h
  rw [h.cell k (by simp; omega), List.getElem_append_left hk]
theorem RowS.free {w : World} {B T : Nat} {vs : List Value} (h : RowS w B T vs) (k : Nat) : w.frozen? ⟨B, k, none⟩ = false := h.elim fun _ h => h.free k
theorem RowS.has {w : World} {B T : Nat} {vs : List Value} (h : RowS w B T vs) : Has w B := h.elim fun _ h => h.has
theorem RowS.set {w : World} {B T : Nat} {vs : List Value} (h : RowS w B T vs) (k : Nat) (hk : k < vs.length) (v : Value) : RowS (w.setCell ⟨B, k, none⟩ v) B T (vs.set k v) := by
  obtain ⟨rest, h⟩ := h
  refine ⟨rest, ?_⟩
  have := h.set k v
  rwa [List.set_append_left _ _ hk] at this
theorem RowS.oth {w : World} {B T b o : Nat} {vs : List Value} {v : Value} (h : RowS w B T vs) (ha : b ≠ B) : RowS (w.setCell ⟨b, o, none⟩ v) B T vs := h.elim fun r h => ⟨r, h.oth ha⟩
theorem RowS.gr {w w' : World} {B T : Nat} {vs : List Value} (h : RowS w B T vs) (hg : Gr w w') : RowS w' B T vs := h.elim fun r h => ⟨r, h.gr hg⟩
theorem RowS.alloc {w : World} {B T : Nat} {vs : List Value} (o : Obj) (h : RowS w B T vs) : RowS (w.alloc o) B T vs := h.gr ((Gr.refl w).alloc o)
theorem RowS.xt {w : World} {B T : Nat} {vs : List Value} (O : Array Obj) (d : Nat) (h : RowS w B T vs) : RowS (xt w O d) B T vs := h.gr ((Gr.refl w).xt O d)
theorem RowS.drew {w : World} {B T : Nat} {vs : List Value} (h : RowS w B T vs) : RowS w.drew B T vs := h.gr (Gr.refl w).drew
theorem RowS.bat {w : World} {B T : Nat} {vs : List Bool} (h : RowS w B T (bools vs)) (k : Nat) (hk : k < vs.length) : w.cell? ⟨B, k, none⟩ = some (.bool vs[k]) := by
  rw [h.cell k (by simpa [bools] using hk)]; simp [bools]
theorem RowS.iat {w : World} {B T : Nat} {vs : List Int} (h : RowS w B T (nums vs)) (k : Nat) (hk : k < vs.length) : w.cell? ⟨B, k, none⟩ = some (.int .i64 vs[k]) := by
  rw [h.cell k (by simpa [nums] using hk)]; simp [nums]
theorem RowS.bset {w : World} {B T : Nat} {vs : List Bool} (h : RowS w B T (bools vs)) (k : Nat) (hk : k < vs.length) (b : Bool) : RowS (w.setCell ⟨B, k, none⟩ (.bool b)) B T (bools (vs.set k b)) := by
  rw [← bools_set]; exact h.set k (by simpa [bools] using hk) _
theorem RowS.iset {w : World} {B T : Nat} {vs : List Int} (h : RowS w B T (nums vs)) (k : Nat) (hk : k < vs.length) (b : Int) : RowS (w.setCell ⟨B, k, none⟩ (.int .i64 b)) B T (nums (vs.set k b)) := by
  rw [← nums_set]; exact h.set k (by simpa [nums] using hk) _
theorem RowS.slB {w : World} {B T : Nat} {vs : List Bool} (h : RowS w B T (bools vs)) : SlOf 1 RB w (some ⟨B, 0, none⟩) vs := fun k hk => ⟨B, 0, rfl, by rw [Nat.mul_one, Nat.zero_add]; exact h.bat k hk⟩
theorem RowS.slI {w : World} {B T : Nat} {vs : List Int} (h : RowS w B T (nums vs)) (hw : ∀ k (hk : k < vs.length), Wide vs[k]) : SlOf 1 RI w (some ⟨B, 0, none⟩) vs := fun k hk => ⟨B, 0, rfl, by rw [Nat.mul_one, Nat.zero_add]; exact ⟨h.iat k hk, hw k hk⟩⟩
theorem RowS.apart {w : World} {B C T U : Nat} {vs us : List Value} (h : RowS w B T vs) (k : RowS w C U us) (hT : T ≠ U) : B ≠ C := by
  rintro rfl
  obtain ⟨r, h⟩ := h
  obtain ⟨s, k⟩ := k
  unfold Row at h k
  rw [h] at k
  injection k with k
  injection k with _ k
  exact hT k
theorem bools_one (vs : List Bool) : ∀ u ∈ bools vs, u.oneCell' = true := by
  intro u hu
  obtain ⟨x, _, rfl⟩ := List.mem_map.1 hu
  rfl
theorem nums_one (vs : List Int) : ∀ u ∈ nums vs, u.oneCell' = true := by
  intro u hu
  obtain ⟨x, _, rfl⟩ := List.mem_map.1 hu
  rfl
def Own1 (base : Nat) (w : World) (T : Nat) (vs : List Value) (a : Option Addr) : Prop := vs = [] ∨ ∃ B, a = some ⟨B, 0, none⟩ ∧ base ≤ B ∧ RowS w B T vs
theorem Own1.gr {base : Nat} {w w' : World} {T : Nat} {vs : List Value} {a : Option Addr} (h : Own1 base w T vs a) (hg : Gr w w') : Own1 base w' T vs a := by
  rcases h with h | ⟨B, e, hb, h⟩
  · exact .inl h
  · exact .inr ⟨B, e, hb, h.gr hg⟩
theorem Own1.low {base base' : Nat} {w : World} {T : Nat} {vs : List Value} {a : Option Addr} (h : Own1 base w T vs a) (hb : base' ≤ base) : Own1 base' w T vs a := by
  rcases h with h | ⟨B, e, hB, h⟩
  · exact .inl h
  · exact .inr ⟨B, e, by omega, h⟩
theorem Own1.slB {base : Nat} {w : World} {T : Nat} {vs : List Bool} {a : Option Addr} (h : Own1 base w T (bools vs) a) : SlOf 1 RB w a vs := by
  rcases h with h | ⟨B, rfl, hb, h⟩
  · have : vs = [] := by simpa [bools] using h
    subst this; exact SlOf.nil _ _ _ _
  · exact h.slB
theorem Own1.slI {base : Nat} {w : World} {T : Nat} {vs : List Int} {a : Option Addr} (h : Own1 base w T (nums vs) a) (hw : ∀ k (hk : k < vs.length), Wide vs[k]) : SlOf 1 RI w a vs := by
  rcases h with h | ⟨B, rfl, hb, h⟩
  · have : vs = [] := by simpa [nums] using h
    subst this; exact SlOf.nil _ _ _ _
  · exact h.slI hw
theorem Gr.grown {w W w' : World} {row : Option Nat} (h : Gr w W) (hg : W.grownBy w' row) (hrow : ∀ k, row = some k → w.heap.size ≤ k) : Gr w w' := by
  have hb := h.below
  refine .of_below ⟨hg.os.trans hb.os, hg.tape.trans hb.tape, hg.output.trans hb.output, Nat.le_trans hb.size hg.size, fun k hk => ?_⟩
  rw [hg.block k (Nat.lt_of_lt_of_le hk hb.size) (fun e => by have := hrow k e.symm; omega)]
  exact hb.block k hk
theorem owns_own1 {w : World} {base e n : Nat} {v : Value} {xs : List Value} (h : w.ownsRow base e 1 v n xs) : ∃ a c, v = .slice a n c ∧ n ≤ c ∧ Own1 base w e xs a := by
  obtain ⟨h0, ⟨rfl, rfl⟩ | ⟨g, cap, cur, rfl, hb, hg, hn, _, hs, ht⟩⟩ := h
  · exact ⟨none, 0, rfl, Nat.le_refl _, .inl (List.eq_nil_of_length_eq_zero (by simpa using h0))⟩
  · refine ⟨_, cap, rfl, hn, .inr ⟨g, rfl, hb, cur.toList.drop (n * 1), ?_⟩⟩
    rw [← ht, List.take_append_drop]
    exact hg
theorem slB_cells {w : World} {b o : Nat} {s : Option Nat} {vs : List Bool} (h : SlOf 1 RB w (some ⟨b, o, s⟩) vs) : ∀ j u, (bools vs)[j]? = some u → w.cell? ((⟨b, o, s⟩ : Addr).add j) = some u := by
  intro j u hu
  obtain ⟨hj, hu⟩ := List.getElem?_eq_some_iff.1 hu
  have hj' : j < vs.length := by simpa [bools] using hj
  obtain ⟨b', o', e, q⟩ := h.one j hj'
  cases e
  have : (⟨b, o, none⟩ : Addr).add j = ⟨b, o + j, none⟩ := by unfold Addr.add; split <;> simp_all
  rw [this, q, ← hu]; simp [bools]
theorem slI_cells {w : World} {b o : Nat} {s : Option Nat} {vs : List Int} (h : SlOf 1 RI w (some ⟨b, o, s⟩) vs) : ∀ j u, (nums vs)[j]? = some u → w.cell? ((⟨b, o, s⟩ : Addr).add j) = some u := by
  intro j u hu
  obtain ⟨hj, hu⟩ := List.getElem?_eq_some_iff.1 hu
  have hj' : j < vs.length := by simpa [nums] using hj
  obtain ⟨b', o', e, q⟩ := h.one j hj'
  cases e
  have : (⟨b, o, none⟩ : Addr).add j = ⟨b, o + j, none⟩ := by unfold Addr.add; split <;> simp_all
  rw [this, q.1, ← hu]; simp [nums]
theorem sl_none {α : Type} {n : Nat} {R : World → Nat → Nat → α → Prop} {w : World} {xs : List α} (h : SlOf n R w none xs) : xs = [] := by
  rcases Nat.eq_zero_or_pos xs.length with e | e
  · exact List.eq_nil_of_length_eq_zero e
  · obtain ⟨b, o, e, _⟩ := h 0 e; cases e
def GivesOwn (w : World) (T : Nat) (vs : List Value) (e : Ending) (w' : World) : Prop :=
  ∃ a c, e = .returned (.slice a vs.length c) ∧ vs.length ≤ c ∧ Own1 w.heap.size w' T vs a ∧ Gr w w'
theorem getD_set {α : Type} (vs : List α) (k j : Nat) (x z : α) (hk : k < vs.length) : (vs.set k x).getD j z = if j = k then x else vs.getD j z := by
  by_cases e : j = k
  · subst e; simp [List.getD_eq_getElem?_getD, hk]
  · rw [if_neg e, List.getD_eq_getElem?_getD, List.getElem?_set_ne (Ne.symm e), ← List.getD_eq_getElem?_getD]
theorem set_same {α : Type} (vs : List α) (k : Nat) (hk : k < vs.length) (x : α) (h : vs[k] = x) : vs.set k x = vs := by rw [← h]; simp
theorem Own1.oth {base b o : Nat} {w : World} {T : Nat} {vs : List Value} {a : Option Addr} {v : Value} (h : Own1 base w T vs a) (hb : b < base) : Own1 base (w.setCell ⟨b, o, none⟩ v) T vs a := by
  rcases h with h | ⟨B, e, hB, h⟩
  · exact .inl h
  · exact .inr ⟨B, e, hB, h.oth (by omega)⟩
theorem Own1.at {base : Nat} {w : World} {T : Nat} {vs : List Value} {a : Option Addr} (h : Own1 base w T vs a) (hv : 0 < vs.length) : ∃ B, a = some ⟨B, 0, none⟩ ∧ base ≤ B ∧ RowS w B T vs := by
  rcases h with h | h
  · rw [h] at hv; cases hv
  · exact h
theorem Own1.row {base B : Nat} {w : World} {T : Nat} {vs : List Value} (hB : base ≤ B) (h : RowS w B T vs) : Own1 base w T vs (some ⟨B, 0, none⟩) := .inr ⟨B, rfl, hB, h⟩
theorem grownBy_set (w : World) (B o : Nat) (v : Value) : w.grownBy (w.setCell ⟨B, o, none⟩ v) (some B) :=
  ⟨rfl, rfl, rfl, by simp [World.setCell], fun k _ hk => by simp only [World.setCell]; rw [Array.getElem?_modify, if_neg (fun e => hk (by rw [e]))]⟩
theorem RowS.grown {w w' : World} {row : Option Nat} {B T : Nat} {vs : List Value} (h : RowS w B T vs) (hg : w.grownBy w' row) (hne : some B ≠ row) : RowS w' B T vs :=
  h.elim fun r h => ⟨r, (hg.block B h.has hne).trans h⟩
theorem Row.grown {w w' : World} {row : Option Nat} {B T : Nat} {vs : List Value} (h : Row w B T vs) (hg : w.grownBy w' row) (hne : some B ≠ row) : Row w' B T vs := (hg.block B h.has hne).trans h
theorem owns_apart {w : World} {base e size n : Nat} {v : Value} {xs : List Value} (ho : w.ownsRow base e size v n xs) {B T : Nat} {vs : List Value} (h : RowS w B T vs) (hT : T ≠ e) : some B ≠ v.ownBlock := by
  intro q
  obtain ⟨_, ⟨rfl, _⟩ | ⟨g, cap, cur, rfl, _, hg, _⟩⟩ := ho
  · cases q
  · injection q with q
    obtain ⟨r, h⟩ := h
    unfold Row at h
    rw [q] at h
    simp only at h
    rw [h] at hg
    injection hg with hg
    injection hg with _ hg
    exact hT hg
theorem owns_set {w : World} {base e size n : Nat} {v : Value} {xs : List Value} (ho : w.ownsRow base e size v n xs) {B T o : Nat} {vs : List Value} {x : Value} (h : RowS w B T vs) (hT : T ≠ e) : (w.setCell ⟨B, o, none⟩ x).ownsRow base e size v n xs :=
  ho.kept (grownBy_set w B o x) (.inr (Ne.symm (owns_apart ho h hT)))
theorem flat_at {α : Type} (f : α → List Value) (n : Nat) (hf : ∀ x, (f x).length = n) (ts : List α) (k j : Nat) (hk : k < ts.length) (hj : j < n) : (ts.flatMap f)[k * n + j]? = (f ts[k])[j]? := by
  induction ts generalizing k with
  | nil => simp at hk
  | cons x ts ih =>
    rw [List.flatMap_cons]
    cases k with
    | zero => rw [List.getElem?_append_left (by rw [hf]; omega)]; simp
    | succ k =>
      rw [List.getElem?_append_right (by rw [hf, Nat.add_mul]; omega), hf, show (k + 1) * n + j - n = k * n + j by rw [Nat.add_mul]; omega, ih k (by simpa using hk)]
      simp
theorem flat_len {α : Type} (f : α → List Value) (n : Nat) (hf : ∀ x, (f x).length = n) (ts : List α) : (ts.flatMap f).length = ts.length * n := by
  induction ts with
  | nil => simp
  | cons x ts ih => rw [List.flatMap_cons, List.length_append, hf, ih, List.length_cons, Nat.add_mul]; omega
theorem owns_cell {w : World} {base e size n : Nat} {v : Value} {xs : List Value} (h : w.ownsRow base e size v n xs) (hn : 0 < n) : ∃ g cap, v = .slice (some ⟨g, 0, none⟩) n cap ∧ n ≤ cap ∧ base ≤ g ∧ ∀ j, j < n * size → w.cell? ⟨g, j, none⟩ = xs[j]? := by
  obtain ⟨h0, ⟨rfl, h1⟩ | ⟨g, cap, cur, rfl, hb, hg, hn', _, hs, ht⟩⟩ := h
  · omega
  · refine ⟨g, cap, rfl, hn', hb, fun j hj => ?_⟩
    rw [← ht, List.getElem?_take, if_pos hj]
    simp [World.cell?, hg]
theorem Own1.grown {base : Nat} {w w1 : World} {row : Option Nat} {T : Nat} {vs : List Value} {a : Option Addr} (h : Own1 base w T vs a) (hg : w.grownBy w1 row) (hne : ∀ B, RowS w B T vs → some B ≠ row) : Own1 base w1 T vs a := by
  rcases h with h | ⟨B, e, hB, h⟩
  · exact .inl h
  · exact .inr ⟨B, e, hB, h.grown hg (hne B h)⟩
theorem owns_slice {w : World} {base e size n : Nat} {v : Value} {xs : List Value} (h : w.ownsRow base e size v n xs) : ∃ a c, v = .slice a n c := by
  rcases h.2 with ⟨rfl, rfl⟩ | ⟨g, cap, cur, rfl, _⟩
  · exact ⟨none, 0, rfl⟩
  · exact ⟨_, cap, rfl⟩
theorem new_cell (w : World) (arr : Array Value) (T j : Nat) (hj : j < arr.toList.length) : (w.alloc (.cells arr T)).cell? ⟨w.heap.size, j, none⟩ = some arr.toList[j] := (Row.new w arr T).cell j hj
theorem Gr.owns {w w1 : World} {base e size n : Nat} {v : Value} {xs : List Value} (r : w.ownsRow base e size v n xs) (hg : Gr w w1) : w1.ownsRow base e size v n xs := by
  refine ⟨r.1, ?_⟩
  rcases r.2 with r | ⟨g, cap, cur, e, h1, h2, h3⟩
  · exact .inl r
  · exact .inr ⟨g, cap, cur, e, h1, (hg.below.block g (Array.getElem?_eq_some_iff.1 h2).1).trans h2, h3⟩
theorem run_append_fresh {P : Program} (w : World) (t ty e : TypeId) (i : TypeInfo) (z : Value) (bytes : Nat) (ht : P.underlying t = some (.slice e)) (hi : P.info? e = some i) (hz : i.zero = some z) (hs : i.size = 1) (hb : i.bytes = bytes)
    (b ad : Addr) (m c : Nat) (news : List Value) (hl : news.length = m) (hnews : ∀ j u, news[j]? = some u → w.cell? (ad.add j) = some u) (hm : 0 < m) (h63 : m ≤ 1000000) (hbytes : bytes ≤ 8) :
    ∃ cap Z, m ≤ cap ∧ (Builtin.append_ #[t, t] ty #[.slice (some b) 0 0, .slice (some ad) m c]).run P w = .ok (.slice (some ⟨w.heap.size, 0, none⟩) m cap) (w.drew.alloc (.cells (news.toArray ++ Z) e)) := by
  subst hb
  have := run_append_grow (P := P) w t ty e i z ht hi hz b 0 0 [] (by simp) (fun j v h => by simp at h) ad m c news (by rw [hs]; omega) hnews (by omega) (by omega) (growslice_fits (by omega) (by rw [Nat.zero_add]; exact Nat.le_trans (Nat.mul_le_mul h63 hbytes) (by decide)))
  simp only [Nat.zero_add, Array.empty_append] at this
  exact ⟨_, _, by have := grownCap_ge w m 0 e; exact this, this⟩
theorem step_append_fresh {P : Program} (w : World) {ops : Array Oper} {o : Oper} {a : Act} {K : Act → World → Prop} {Q : Exit → Act → World → Prop} {E : Prop} (hgd : o.guard = none) (s x : Operand) (t : TypeId)
    (ho : o.op = .call { callee := .builtin .append, args := #[s, x], argTypes := #[t, t] }) (e : TypeId) (i : TypeInfo) (z : Value) (bytes : Nat) (ht : P.underlying t = some (.slice e)) (hi : P.info? e = some i) (hz : i.zero = some z) (hs : i.size = 1) (hb : i.bytes = bytes)
    (b ad : Addr) (m c : Nat) (news : List Value) (hv : a.eval s = .slice (some b) 0 0) (hx : a.eval x = .slice (some ad) m c) (hl : news.length = m) (hnews : ∀ j u, news[j]? = some u → w.cell? (ad.add j) = some u) (hm : 0 < m) (h63 : m ≤ 1000000) (hbytes : bytes ≤ 8) (H : Nat) (hH : w.heap.size = H)
    (h : ∀ cap Z, m ≤ cap → K (a.put o.dst (.slice (some ⟨H, 0, none⟩) m cap)) (w.drew.alloc (.cells (news.toArray ++ Z) e))) :
    if Region.wanted o (yielded ops a.tmps) = true then Oper.wp P o a w K Q else E := by
  subst hH
  have hw : Region.wanted o (yielded ops a.tmps) = true := by simp [Region.wanted, hgd]
  rw [if_pos hw]
  obtain ⟨cap, Z, hc, hr⟩ := run_append_fresh (P := P) w t o.type e i z bytes ht hi hz hs hb b ad m c news hl hnews hm h63 hbytes
  unfold Oper.wp execOp
  simp only [ho, resolve, invoke, builtin, Sem.run_bind, Sem.run_pure, Result.andThen_ok, List.map_toArray, List.map_cons, List.map_nil, hv, hx, hr]
  exact h cap Z hc
theorem row_fresh (w : World) (vs : List Value) (Z : Array Value) (T : Nat) : RowS (w.alloc (.cells (vs.toArray ++ Z) T)) w.heap.size T vs := ⟨Z.toList, by have := Row.new w (vs.toArray ++ Z) T; simpa using this⟩
theorem row_fresh' (w : World) (vs : List Value) (Z : Array Value) (T B : Nat) (hB : B = w.heap.size) : RowS (w.alloc (.cells (vs.toArray ++ Z) T)) B T vs := by subst hB; exact row_fresh w vs Z T
theorem RowS.drewN {w : World} {B T : Nat} {vs : List Value} (n : Nat) (h : RowS w B T vs) : RowS (w.drewN n) B T vs := h.gr ((Gr.refl w).drewN n)
theorem SlOf.keepB {w : World} {ao : Option Addr} {xs : List Bool} {a : Addr} {v v' : Value} (h : SlOf 1 RB w ao xs) (c : w.cell? a = some v) (hv : ∀ x, v ≠ .bool x) : SlOf 1 RB (w.setCell a v') ao xs := fun k hk => by
  obtain ⟨b, o, rfl, q⟩ := h k hk
  refine ⟨b, o, rfl, ?_⟩
  unfold RB at q ⊢
  rw [World.cell?_setCell_other, q]
  intro e
  rw [e, q] at c
  cases c
  exact hv _ rfl
theorem SlOf.keepI {w : World} {ao : Option Addr} {xs : List Int} {a : Addr} {v v' : Value} (h : SlOf 1 RI w ao xs) (c : w.cell? a = some v) (hv : ∀ k x, v ≠ .int k x) : SlOf 1 RI (w.setCell a v') ao xs := fun k hk => by
  obtain ⟨b, o, rfl, q⟩ := h k hk
  refine ⟨b, o, rfl, ?_, q.2⟩
  rw [World.cell?_setCell_other, q.1]
  intro e
  rw [e, q.1] at c
  cases c
  exact hv _ _ rfl
section
open Classical
theorem Mv.rowS {w w1 : World} {b len B T : Nat} {vs : List Value} (h : Mv b len w w1) (r : RowS w B T vs) (hb : B ≠ b) : RowS w1 B T vs := r.elim fun x r => ⟨x, h.row r hb⟩
theorem Mv.own1 {w w1 : World} {b len base T : Nat} {vs : List Value} {a : Option Addr} (h : Mv b len w w1) (r : Own1 base w T vs a) (hb : b < base) : Own1 base w1 T vs a := by
  rcases r with r | ⟨B, e, hB, r⟩
  · exact .inl r
  · exact .inr ⟨B, e, hB, h.rowS r (by omega)⟩
theorem Mv.owns {w w1 : World} {b len base e size n : Nat} {v : Value} {xs : List Value} (h : Mv b len w w1) (r : w.ownsRow base e size v n xs) (hb : b < base) : w1.ownsRow base e size v n xs := by
  refine ⟨r.1, ?_⟩
  rcases r.2 with r | ⟨g, cap, cur, e, h1, h2, h3⟩
  · exact .inl r
  · exact .inr ⟨g, cap, cur, e, h1, (h.block (Array.getElem?_eq_some_iff.1 h2).1 (by omega)).trans h2, h3⟩
/-- It holds wherever the tape stands. -/
def Hold (b : Nat) (w : World) (Q : World → Prop) : Prop := ∀ p : Int, Q (w.setCell ⟨b, 1, none⟩ (.int .i64 p))
def GrMono (Q : World → Prop) : Prop := ∀ w w', Gr w w' → Q w → Q w'
theorem Hold.mv {w w1 : World} {b len : Nat} {Q : World → Prop} (h : Hold b w Q) (hb : b < w.heap.size) (m : Mv b len w w1) (hQ : GrMono Q) : Hold b w1 Q := by
  intro q
  obtain ⟨p, h0, h1, hg⟩ := m
  have := gr_setCell hg (by rw [size_set]; exact hb) (.int .i64 q)
  rw [setCell_setCell] at this
  exact hQ _ _ this (h q)
theorem Hold.now {w : World} {b len : Nat} {Q : World → Prop} (h : Hold b w Q) (ht : Tp w b len) : Q w := by
  obtain ⟨p, ht⟩ := ht
  obtain ⟨ao, cap, c0, c1, _⟩ := ht
  have := h p
  rwa [setCell_id c1] at this
theorem Hold.gr {w w1 : World} {b : Nat} {Q : World → Prop} (h : Hold b w Q) (hb : b < w.heap.size) (hg : Gr w w1) (hQ : GrMono Q) : Hold b w1 Q := fun q => hQ _ _ (gr_setCell hg hb _) (h q)
theorem pickM_any (w : World) (b len : Nat) (h : Tp w b len) (eb n : Nat) (S : Int → Prop) (hn : 1 ≤ n) (hn1 : n ≤ 1000) (hne : eb ≠ b) (hel : ∀ k, k < n → ∃ x, w.cell? ⟨eb, k, none⟩ = some (.int .i64 x) ∧ S x) :
    Calls Tryz.prog 63 #[.pointer (some ⟨b, 0, none⟩), .slice (some ⟨eb, 0, none⟩) n n] w (ReadsM b len w S) :=
  h.elim fun p h => (pick_any w b len p h eb n S hn hn1 hne hel).mono fun _ _ q => q.m
theorem Mv.grown {w W w1 : World} {b len : Nat} {row : Option Nat} (h : Mv b len w W) (hg : W.grownBy w1 row) (hrow : ∀ k, row = some k → w.heap.size ≤ k) : Mv b len w w1 := by
  obtain ⟨p, h0, h1, g⟩ := h
  exact ⟨p, h0, h1, g.grown hg (fun k e => by rw [size_set]; exact hrow k e)⟩
theorem pickNew_any (w : World) (b len : Nat) (h : Tp w b len) (eb : Nat) (heb : eb = w.heap.size) (arr : Array Value) (n : Nat) (xs : List Int) (S : Int → Prop) (ha : arr.toList = nums xs) (hn : xs.length = n) (hn1 : 1 ≤ n) (hn2 : n ≤ 1000) (hS : ∀ x ∈ xs, S x) :
    Calls Tryz.prog 63 #[.pointer (some ⟨b, 0, none⟩), .slice (some ⟨eb, 0, none⟩) n n] (w.alloc (.cells arr 3)) (ReadsM b len w S) := by
  subst heb
  refine (pickM_any (w.alloc (.cells arr 3)) b len (h.gr ((Gr.refl _).alloc _)) w.heap.size n S hn1 hn2 (by have := h.has; omega) (fun k hk => ?_)).mono ?_
  · have q := Row.new w arr 3
    rw [ha] at q
    exact ⟨_, q.iat k (by omega), hS _ (List.getElem_mem _)⟩
  · rintro e w' ⟨x, rfl, hs, hm⟩
    exact ⟨x, rfl, hs, (Mv.of_gr h ((Gr.refl _).alloc _)).trans h.has hm⟩
end

/-- What an append reads: m elements with the cells news; at an address, if there are any. -/
def Gets (w : World) (A : Option Addr) (m size : Nat) (news : List Value) : Prop := news.length = m * size ∧ (m ≠ 0 → ∃ ad, A = some ad ∧ ∀ j u, news[j]? = some u → w.cell? (ad.add j) = some u)
section
variable {P : Program} (w : World)
theorem grownBy_same (row : Option Nat) : w.grownBy w row := World.grownBy.refl w row
theorem run_append_gets (base : Nat) (t ty e : TypeId) (i : TypeInfo) (z : Value) (size bytes : Nat) (ht : P.underlying t = some (.slice e)) (hi : P.info? e = some i) (hz : i.zero = some z) (hs : i.size = size) (hb : i.bytes = bytes) (hzs : z.cells.size = size) (h0 : 0 < size)
    (v : Value) (n : Nat) (xs : List Value) (hown : w.ownsRow base e size v n xs) (A : Option Addr) (m c : Nat) (news : List Value) (hg : Gets w A m size news) (h1 : ∀ u ∈ news, u.oneCell' = true) (h63 : n + m ≤ maxLen) (hbytes : (n + m) * bytes ≤ 140737488355328) (hbase : base ≤ w.heap.size) :
    ∃ v' w', (Builtin.append_ #[t, t] ty #[v, .slice A m c]).run P w = .ok v' w' ∧ w'.ownsRow base e size v' (n + m) (xs ++ news) ∧ w.grownBy w' v.ownBlock ∧ (v'.ownBlock = v.ownBlock ∨ v'.ownBlock = some w.heap.size) := by
  cases A with
  | some ad =>
    have hc : ∀ j u, news[j]? = some u → w.cell? (ad.add j) = some u := by
      by_cases hm : m = 0
      · subst hm
        have : news = [] := List.eq_nil_of_length_eq_zero (by have := hg.1; omega)
        subst this
        intro j u hu; simp at hu
      · obtain ⟨_, e, q⟩ := hg.2 hm
        cases e
        exact q
    obtain ⟨v', w', q1, q2, q3, _, q5⟩ := run_append_own_at (P := P) w base t ty e i z size bytes ht hi hz hs hb hzs h0 v n xs hown ad m c news hg.1 hc h1 h63 hbytes hbase
    exact ⟨v', w', q1, q2, q3, q5⟩
  | none =>
    have hm : m = 0 := Classical.byContradiction fun q => by obtain ⟨_, e, _⟩ := hg.2 q; cases e
    subst hm
    have : news = [] := List.eq_nil_of_length_eq_zero (by have := hg.1; omega)
    subst this
    refine ⟨v, w, ?_, by simpa using hown, grownBy_same w _, .inl rfl⟩
    obtain ⟨_, ⟨rfl, rfl⟩ | ⟨g, cap, cur, rfl, _, _, hnc, _⟩⟩ := hown
    · simp [Builtin.append_, run_underlying ht, sizeOf, typeInfo, hi, Builtin.lenOf, Builtin.firstCells]
    · simp [Builtin.append_, run_underlying ht, sizeOf, typeInfo, hi, Builtin.lenOf, Builtin.firstCells, hnc, storeCells]
theorem wp_append_gets {o : Oper} {a : Act} {K : Act → World → Prop} {Q : Exit → Act → World → Prop} (s x : Operand) (t : TypeId)
    (ho : o.op = .call { callee := .builtin .append, args := #[s, x], argTypes := #[t, t] }) (base : Nat) (e : TypeId) (i : TypeInfo) (z : Value) (size bytes : Nat) (ht : P.underlying t = some (.slice e)) (hi : P.info? e = some i) (hz : i.zero = some z) (hs : i.size = size) (hb : i.bytes = bytes) (hzs : z.cells.size = size) (h0 : 0 < size)
    (v : Value) (n : Nat) (xs : List Value) (hv : a.eval s = v) (hown : w.ownsRow base e size v n xs) (A : Option Addr) (m c : Nat) (news : List Value) (hx : a.eval x = .slice A m c) (hg : Gets w A m size news) (h1 : ∀ u ∈ news, u.oneCell' = true) (h63 : n + m ≤ maxLen) (hbytes : (n + m) * bytes ≤ 140737488355328) (hbase : base ≤ w.heap.size)
    (h : ∀ v' w', w'.ownsRow base e size v' (n + m) (xs ++ news) → w.grownBy w' v.ownBlock → (v'.ownBlock = v.ownBlock ∨ v'.ownBlock = some w.heap.size) → K (a.put o.dst v') w') : o.wp P a w K Q := by
  obtain ⟨v', w', q1, q2, q3, q4⟩ := run_append_gets (P := P) w base t o.type e i z size bytes ht hi hz hs hb hzs h0 v n xs hown A m c news hg h1 h63 hbytes hbase
  unfold Oper.wp execOp
  simp only [ho, resolve, invoke, builtin, Sem.run_bind, Sem.run_pure, Result.andThen_ok, List.map_toArray, List.map_cons, List.map_nil, hv, hx, q1]
  exact h v' w' q2 q3 q4
theorem wpList_append_gets {ops : Array Oper} {rest : List Oper} {o : Oper} {a : Act} {Q : Exit → Act → World → Prop} (hgd : o.guard = none) (s x : Operand) (t : TypeId)
    (ho : o.op = .call { callee := .builtin .append, args := #[s, x], argTypes := #[t, t] }) (base : Nat) (e : TypeId) (i : TypeInfo) (z : Value) (size bytes : Nat) (ht : P.underlying t = some (.slice e)) (hi : P.info? e = some i) (hz : i.zero = some z) (hs : i.size = size) (hb : i.bytes = bytes) (hzs : z.cells.size = size) (h0 : 0 < size)
    (v : Value) (n : Nat) (xs : List Value) (hv : a.eval s = v) (hown : w.ownsRow base e size v n xs) (A : Option Addr) (m c : Nat) (news : List Value) (hx : a.eval x = .slice A m c) (hg : Gets w A m size news) (h1 : ∀ u ∈ news, u.oneCell' = true) (h63 : n + m ≤ maxLen) (hbytes : (n + m) * bytes ≤ 140737488355328) (hbase : base ≤ w.heap.size)
    (h : ∀ v' w', w'.ownsRow base e size v' (n + m) (xs ++ news) → w.grownBy w' v.ownBlock → (v'.ownBlock = v.ownBlock ∨ v'.ownBlock = some w.heap.size) → wpList P ops Q rest (a.put o.dst v') w') : wpList P ops Q (o :: rest) a w :=
  wpList_plain hgd fun _ hK => wp_append_gets w s x t ho base e i z size bytes ht hi hz hs hb hzs h0 v n xs hv hown A m c news hx hg h1 h63 hbytes hbase fun v' w' q1 q2 q3 => hK _ _ (h v' w' q1 q2 q3)
theorem step_append_gets {ops : Array Oper} {o : Oper} {a : Act} {K : Act → World → Prop} {Q : Exit → Act → World → Prop} {E : Prop} (hgd : o.guard = none) (s x : Operand) (t : TypeId)
    (ho : o.op = .call { callee := .builtin .append, args := #[s, x], argTypes := #[t, t] }) (base : Nat) (e : TypeId) (i : TypeInfo) (z : Value) (size bytes : Nat) (ht : P.underlying t = some (.slice e)) (hi : P.info? e = some i) (hz : i.zero = some z) (hs : i.size = size) (hb : i.bytes = bytes) (hzs : z.cells.size = size) (h0 : 0 < size)
    (v : Value) (n : Nat) (xs : List Value) (hv : a.eval s = v) (hown : w.ownsRow base e size v n xs) (A : Option Addr) (m c : Nat) (news : List Value) (hx : a.eval x = .slice A m c) (hg : Gets w A m size news) (h1 : ∀ u ∈ news, u.oneCell' = true) (h63 : n + m ≤ maxLen) (hbytes : (n + m) * bytes ≤ 140737488355328) (hbase : base ≤ w.heap.size)
    (h : ∀ v' w', w'.ownsRow base e size v' (n + m) (xs ++ news) → w.grownBy w' v.ownBlock → (v'.ownBlock = v.ownBlock ∨ v'.ownBlock = some w.heap.size) → K (a.put o.dst v') w') :
    if Region.wanted o (yielded ops a.tmps) = true then Oper.wp P o a w K Q else E := by
  rw [if_pos (by simp [Region.wanted, hgd])]
  exact wp_append_gets w s x t ho base e i z size bytes ht hi hz hs hb hzs h0 v n xs hv hown A m c news hx hg h1 h63 hbytes hbase h
end
theorem owns_ownN {w : World} {base e size n : Nat} {v : Value} {xs : List Value} (h : w.ownsRow base e size v n xs) : ∃ a c, v = .slice a n c ∧ n ≤ c ∧ Own1 base w e xs a := by
  obtain ⟨h0, ⟨rfl, rfl⟩ | ⟨g, cap, cur, rfl, hb, hg, hn, _, hs, ht⟩⟩ := h
  · exact ⟨none, 0, rfl, Nat.le_refl _, .inl (List.eq_nil_of_length_eq_zero (by simpa using h0))⟩
  · refine ⟨_, cap, rfl, hn, .inr ⟨g, rfl, hb, cur.toList.drop (n * size), ?_⟩⟩
    rw [← ht, List.take_append_drop]
    exact hg
theorem owns_low {w : World} {base base' e size n : Nat} {v : Value} {xs : List Value} (h : w.ownsRow base e size v n xs) (hb : base' ≤ base) : w.ownsRow base' e size v n xs := by
  refine ⟨h.1, ?_⟩
  rcases h.2 with q | ⟨g, cap, cur, e, h1, h2⟩
  · exact .inl q
  · exact .inr ⟨g, cap, cur, e, by omega, h2⟩
theorem owns_block {w : World} {base e size n : Nat} {v : Value} {xs : List Value} (h : w.ownsRow base e size v n xs) : ∀ g, v.ownBlock = some g → base ≤ g ∧ g < w.heap.size := by
  intro g hg
  rcases h.2 with ⟨rfl, _⟩ | ⟨g', cap, cur, rfl, h1, h2, _⟩
  · cases hg
  · simp [Value.ownBlock] at hg
    subst hg
    exact ⟨h1, (Array.getElem?_eq_some_iff.1 h2).1⟩
end Go.Proofs.YtadldblpkgackaaGreatDoor

/-! The code of one block or region of a function, found by its number (as XAnH, by itself). -/
set_option linter.unusedVariables false
set_option linter.unusedSimpArgs false
namespace Go.Proofs.YtadldblpkgackaaGreatDoor
open Go.RowKit
/-- The code of block id. -/
def codeOf (id : Nat) : Code → Option Code
  | .block i c => bif Nat.beq i id then some c else codeOf id c
  | .seq a b => match codeOf id a with | some o => some o | none => codeOf id b
  | .cond _ a b => match codeOf id a with | some o => some o | none => codeOf id b
  | .loop c => codeOf id c
  | .scope c => codeOf id c
  | .rangeFunc _ _ a b => match codeOf id a with | some o => some o | none => codeOf id b
  | _ => none
theorem wp_then_of {P : Program} {c : Code} {K : Act → World → Prop} {Q : Exit → Act → World → Prop} {a : Act} {w : World} (h : c.wp P (Exit.then K fun _ _ _ => False) a w) : c.wp P (Exit.then K Q) a w :=
  Code.wp_mono (fun e a w q => by cases e <;> first | exact q | exact q.elim) h
def codeIn (id : Nat) (f : Func) : Code := ((f.body.bind (codeOf id))).getD .skip
end Go.Proofs.YtadldblpkgackaaGreatDoor
