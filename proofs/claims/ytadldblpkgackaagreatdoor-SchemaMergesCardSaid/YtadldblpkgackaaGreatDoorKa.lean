/- Worlds that have only grown: 'xt w O d' is the world w with the blocks O behind its own and the count of draws at d. Every world that is as w was below w's own size is such a one. No conditions. A region that draws its order: operations that are quiet in a class of worlds stand ahead of a tail whose order is forced and which waits for all of them. One walk, in the order of the text, serves every order. No conditions. (several texts in one, by wip/tools/merge.py) -/
import Derived.Test.YtadldblpkgackaaGreatDoorRows
import Derived.WalkKit
import Derived.WalkSpells
import Derived.WalkLawsBesides
import Derived.Deep.QuietTactic
import Derived.BigQuiet
import Derived.Lib.Hide
import Derived.StillTailTactics
import Derived.Deep.RegionHeld3
import Derived.Deep.DrawnRows
import Derived.Deep.OwnRows
/-! Worlds that have only grown: 'xt w O d' is the world w with the blocks O behind its own and the count of draws at d. Every world that is as w was below w's own size is such a one. No conditions. -/
set_option linter.unusedVariables false
set_option linter.unusedSimpArgs false
namespace Go.Proofs.YtadldblpkgackaaGreatDoor
open Go.RowKit

def xt (w : World) (O : Array Obj) (d : Nat) : World := { w with heap := w.heap ++ O, drawn := d }

@[simp, go_sem] theorem heap_size_xt (w : World) (O : Array Obj) (d : Nat) : (xt w O d).heap.size = w.heap.size + O.size := by
  simp [xt]
@[simp, go_sem] theorem tape_xt (w : World) (O : Array Obj) (d : Nat) : (xt w O d).tape = w.tape := rfl
theorem block_xt (w : World) (O : Array Obj) (d k : Nat) (h : k < w.heap.size) : (xt w O d).heap[k]? = w.heap[k]? := by
  simp only [xt]; rw [Array.getElem?_append_left h]
/-- Block b is there. -/
def Has (w : World) (b : Nat) : Prop := b < w.heap.size
@[simp, go_sem] theorem has_alloc (w : World) (o : Obj) (b : Nat) : Has (w.alloc o) b = (b = w.heap.size ∨ Has w b) := by
  simp only [Has, World.size_alloc, eq_iff_iff]; omega
@[simp, go_sem] theorem has_drew (w : World) (b : Nat) : Has w.drew b = Has w b := rfl
@[simp, go_sem] theorem has_drewN (w : World) (n b : Nat) : Has (w.drewN n) b = Has w b := rfl
@[simp, go_sem] theorem has_setCell (w : World) (a : Addr) (v : Value) (b : Nat) : Has (w.setCell a v) b = Has w b := by
  simp [Has, World.setCell]
@[simp, go_sem] theorem has_xt (w : World) (O : Array Obj) (d b : Nat) : Has (xt w O d) b = (Has w b ∨ (w.heap.size ≤ b ∧ b < w.heap.size + O.size)) := by
  simp only [Has, heap_size_xt, eq_iff_iff]; omega
theorem has_of_cell {w : World} {b o : Nat} {s : Option Nat} {v : Value} (h : w.cell? ⟨b, o, s⟩ = some v) : Has w b := by
  unfold Has
  rcases Nat.lt_or_ge b w.heap.size with h1 | h1
  · exact h1
  · simp [World.cell?, Array.getElem?_eq_none h1] at h
@[simp, go_sem] theorem cell?_xt {w : World} {O : Array Obj} {d b o : Nat} {s : Option Nat} (h : Has w b) : (xt w O d).cell? ⟨b, o, s⟩ = w.cell? ⟨b, o, s⟩ :=
  World.cell?_of_block (w := w) (block_xt w O d b h)
@[simp, go_sem] theorem frozen?_xt {w : World} {O : Array Obj} {d b o : Nat} {s : Option Nat} (h : Has w b) : (xt w O d).frozen? ⟨b, o, s⟩ = w.frozen? ⟨b, o, s⟩ :=
  World.frozen?_of_block (w := w) (block_xt w O d b h)
@[simp, go_sem] theorem cell?_alloc_has {w : World} {x : Obj} {b o : Nat} {s : Option Nat} (h : Has w b) : (w.alloc x).cell? ⟨b, o, s⟩ = w.cell? ⟨b, o, s⟩ :=
  World.cell?_alloc_lt w x ⟨b, o, s⟩ h
@[simp, go_sem] theorem frozen?_alloc_has {w : World} {x : Obj} {b o : Nat} {s : Option Nat} (h : Has w b) : (w.alloc x).frozen? ⟨b, o, s⟩ = w.frozen? ⟨b, o, s⟩ :=
  World.frozen?_of_block (w := w) (Below.heap_alloc w x b h)
@[simp, go_sem] theorem xt_xt (w : World) (O O' : Array Obj) (d d' : Nat) : xt (xt w O d) O' d' = xt w (O ++ O') d' := by
  simp [xt]
@[simp, go_sem] theorem drew_xt (w : World) (O : Array Obj) (d : Nat) : (xt w O d).drew = xt w O (d + 1) := rfl
@[simp, go_sem] theorem xt_drew (w : World) (O : Array Obj) (d : Nat) : xt w.drew O d = xt w O d := rfl
@[simp, go_sem] theorem xt_drewN (w : World) (O : Array Obj) (n d : Nat) : xt (w.drewN n) O d = xt w O d := rfl
theorem setCell_xt (w : World) (O : Array Obj) (d : Nat) (a : Addr) (v : Value) (h : a.block < w.heap.size) : (xt w O d).setCell a v = xt (w.setCell a v) O d := by
  unfold xt World.setCell
  congr 1
  apply Array.ext_getElem?
  intro i
  simp only [Array.getElem?_modify, Array.getElem?_append, Array.size_modify]
  by_cases e : a.block = i
  · subst e; simp [h]
  · simp [e]
@[simp, go_sem] theorem setCell_xt_has {w : World} {O : Array Obj} {d b o : Nat} {s : Option Nat} {v : Value} (h : Has w b) : (xt w O d).setCell ⟨b, o, s⟩ v = xt (w.setCell ⟨b, o, s⟩ v) O d :=
  setCell_xt w O d ⟨b, o, s⟩ v h
@[simp, go_sem] theorem setCell_alloc_has {w : World} {x : Obj} {b o : Nat} {v : Value} (h : Has w b) : (w.alloc x).setCell ⟨b, o, none⟩ v = (w.setCell ⟨b, o, none⟩ v).alloc x :=
  World.setCell_alloc_past x b o v h
theorem below_xt (w : World) (O : Array Obj) (d : Nat) : Below w.heap.size w (xt w O d) :=
  ⟨rfl, rfl, rfl, by simp, fun k hk => block_xt w O d k hk⟩
theorem below_of_xt {w w' : World} (h : ∃ O d, w' = xt w O d) : Below w.heap.size w w' := by
  obtain ⟨O, d, rfl⟩ := h; exact below_xt w O d
theorem xt_of_below {w w' : World} (h : Below w.heap.size w w') : ∃ O d, w' = xt w O d := by
  refine ⟨w'.heap.extract w.heap.size w'.heap.size, w'.drawn, ?_⟩
  obtain ⟨h1, h2, h3, h4, h5⟩ := h
  cases w' with
  | mk heap tape drawn os output =>
  simp only at h1 h2 h3 h4 h5
  subst h1 h2 h3
  simp only [xt, World.mk.injEq, and_true]
  apply Array.ext_getElem?
  intro i
  by_cases hi : i < w.heap.size
  · rw [h5 i hi, Array.getElem?_append_left hi]
  · rw [Array.getElem?_append_right (by omega), Array.getElem?_extract]
    by_cases h' : i < heap.size
    · rw [if_pos (by omega)]; congr 1; omega
    · rw [if_neg (by omega), Array.getElem?_eq_none (by omega)]
/-- The class of worlds for a region whose calls make memory of their own. -/
theorem xt_self (w : World) : w = xt w #[] w.drawn := by simp [xt]
theorem grows_refl (w : World) : ∃ O d, w = xt w O d := ⟨_, _, xt_self w⟩
theorem grows_drew (w : World) : ∃ O d, w.drew = xt w O d := ⟨#[], w.drawn + 1, by show ({ w with drawn := w.drawn + 1 } : World) = _; simp [xt]⟩
theorem grows_trans {w w' w'' : World} (h : ∃ O d, w' = xt w O d) (k : ∃ O d, w'' = xt w' O d) : ∃ O d, w'' = xt w O d := by
  obtain ⟨O, d, rfl⟩ := h; obtain ⟨O', d', rfl⟩ := k; exact ⟨O ++ O', d', xt_xt _ _ _ _ _⟩
/-- The class of the grown worlds, by one letter. -/
structure More where
  o : Array Obj
  d : Nat
instance : Nonempty More := ⟨⟨#[], 0⟩⟩
theorem grown_pair {w w' : World} (h : ∃ x : More, w' = xt w x.o x.d) : ∃ O d, w' = xt w O d := let ⟨x, hx⟩ := h; ⟨x.o, x.d, hx⟩
theorem wp_region_grows {P : Program} {id : Nat} {Q : Exit → Act → World → Prop} {a : Act} {w : World} {l : List Oper} (hm : P.follows .mixedOrders = true) (hB : Region.lexB .any l.toArray = true)
    (h : wpQuiet P l.toArray (fun w' => ∃ x : More, w' = xt w x.o x.d) (fun a' => ∀ w', (∃ x : More, w' = xt w x.o x.d) → Q .normal a' w') l a) : (Code.region id l.toArray true).wp P Q a w :=
  wp_region_quiet (C := fun w' => ∃ x : More, w' = xt w x.o x.d) hm hB ⟨⟨#[], w.drawn + 1⟩, by simp [xt]⟩ h
theorem wp_region_growsx {P : Program} {id : Nat} {Q : Exit → Act → World → Prop} {a : Act} {w : World} {O : Array Obj} {d : Nat} {l : List Oper} (hm : P.follows .mixedOrders = true) (hB : Region.lexB .any l.toArray = true)
    (h : wpQuiet P l.toArray (fun w' => ∃ x : More, w' = xt w x.o x.d) (fun a' => ∀ w', (∃ x : More, w' = xt w x.o x.d) → Q .normal a' w') l a) : (Code.region id l.toArray true).wp P Q a (xt w O d) :=
  wp_region_quiet (C := fun w' => ∃ x : More, w' = xt w x.o x.d) hm hB ⟨⟨O, d + 1⟩, rfl⟩ h
theorem wp_region_tail {P : Program} {id : Nat} {Q : Exit → Act → World → Prop} {a : Act} {w : World} {l : List Oper} (n : Nat) (hm : P.follows .mixedOrders = true) (hB : Region.lexTailB .any l.toArray n = true)
    (h : wpStill P l.toArray w.drew (fun a' => wpList P l.toArray Q (l.drop n) a' w.drew) (l.take n) a) : (Code.region id l.toArray true).wp P Q a w :=
  wp_region_still_tail n hm hB h
/-- w' is w grown: every block of w is as it was. -/
def Gr (w w' : World) : Prop := ∃ O d, w' = xt w O d
theorem Gr.below {w w' : World} (h : Gr w w') : Below w.heap.size w w' := below_of_xt h
theorem Gr.of_below {w w' : World} (h : Below w.heap.size w w') : Gr w w' := xt_of_below h
theorem Gr.refl (w : World) : Gr w w := grows_refl w
theorem Gr.trans {w w' w'' : World} (h : Gr w w') (k : Gr w' w'') : Gr w w'' := grows_trans h k
theorem Gr.xt {w w' : World} (O : Array Obj) (d : Nat) (h : Gr w w') : Gr w (xt w' O d) := grows_trans h ⟨O, d, rfl⟩
theorem Gr.drew {w w' : World} (h : Gr w w') : Gr w w'.drew := .of_below h.below.drew
theorem Gr.drewN {w w' : World} (n : Nat) (h : Gr w w') : Gr w (w'.drewN n) := by
  obtain ⟨O, d, rfl⟩ := h; exact ⟨O, d + n, rfl⟩
theorem Gr.size {w w' : World} (h : Gr w w') : w.heap.size ≤ w'.heap.size := h.below.size
theorem Gr.alloc {w w' : World} (o : Obj) (h : Gr w w') : Gr w (w'.alloc o) := .of_below (h.below.alloc h.size o)
theorem Gr.setCell {w w' : World} {a : Addr} (hb : w.heap.size ≤ a.block) (v : Value) (h : Gr w w') : Gr w (w'.setCell a v) := .of_below (h.below.setCell hb v)
theorem ret_bool {a b : Bool} (h : a = b) : Ending.returned (.bool a) = .returned (.bool b) := by rw [h]
theorem ret_int {k : IntKind} {a b : Int} (h : a = b) : Ending.returned (.int k a) = .returned (.int k b) := by rw [h]
/-- The call returns v, and the world has only grown. -/
def Grows (w : World) (v : Value) (e : Ending) (w' : World) : Prop := e = .returned v ∧ Gr w w'
theorem calls_grows {P : Program} {f : FuncId} {args : Array Value} {w : World} {O : Array Obj} {d : Nat} {v : Value}
    (h : Calls P f args (xt w O d) (Grows (xt w O d) v)) : Calls P f args (xt w O d) fun e w'' => e = .returned v ∧ ∃ x : More, w'' = xt w x.o x.d :=
  h.mono fun _ _ ⟨he, O', d', hw⟩ => ⟨he, ⟨O ++ O', d'⟩, by rw [hw, xt_xt]⟩
theorem calls_same {P : Program} {f : FuncId} {args : Array Value} {w : World} {O : Array Obj} {d : Nat} {v : Value}
    (h : Calls P f args (xt w O d) fun e w' => e = .returned v ∧ xt w O d = w') : Calls P f args (xt w O d) fun e w'' => e = .returned v ∧ ∃ x : More, w'' = xt w x.o x.d :=
  h.mono fun _ _ ⟨he, hw⟩ => ⟨he, ⟨O, d⟩, hw.symm⟩
end Go.Proofs.YtadldblpkgackaaGreatDoor

/-! A region that draws its order: operations that are quiet in a class of worlds stand ahead of a tail whose order is forced and which waits for all of them. One walk, in the order of the text, serves every order. No conditions. -/
set_option linter.unusedVariables false
set_option linter.unusedSimpArgs false
namespace Go.Proofs.YtadldblpkgackaaGreatDoor
open Go.RowKit
section
variable {P : Program} {ops : Array Oper} {md : Region.Mode} {C : World → Prop} {n : Nat} {L : Array Bool → Act → Prop}

/-- f operations of the head are still to come, in whatever order; then L holds. -/
def heads (P : Program) (md : Region.Mode) (ops : Array Oper) (C : World → Prop) (n : Nat) (L : Array Bool → Act → Prop) : Nat → Array Bool → Act → Prop
  | 0, done, a => L done a
  | f + 1, done, a => (∃ i, i ∈ Region.ready md ops done) ∧ ∀ i, i ∈ Region.ready md ops done → i < n ∧ qOp P ops C i (heads P md ops C n L f (done.setIfInBounds i true)) a

theorem any_of_heads {g : Nat} {Q' : Exit → Act → World → Prop} (hL : ∀ done a w, C w → L done a → wpAny P md ops Q' g done a w) (f : Nat) :
    ∀ (done : Array Bool) (a : Act) (w : World), C w → heads P md ops C n L f done a → wpAny P md ops Q' (f + g) done a w := by
  induction f with
  | zero => intro done a w hw h; rw [Nat.zero_add]; exact hL _ _ _ hw h
  | succ f ih =>
    intro done a w hw h
    obtain ⟨⟨i0, hi0⟩, hall⟩ := h
    have e : f + 1 + g = (f + g) + 1 := by omega
    rw [e]
    refine ⟨fun h0 => (by rw [h0] at hi0; cases hi0), fun i hi => ?_⟩
    exact wpOp_of_qOp hw (fun a' w' hw' h' => ih _ a' w' hw' h') (hall i hi).2

/-- One that may come up now may be taken first. -/
theorem heads_first {i : Nat} {oi : Oper} {v : Value} (hi : ops[i]? = some oi) (hsel : ∀ (j : Nat) (o : Oper) cs b, ops[j]? = some o → o.op ≠ .select cs b)
    (hs : Region.sinkB md ops n = true) (hc : Region.chainB md ops n = true) (hn : n < ops.size) (hin : i < n) (hend : ∀ done a, L done a → ∀ j ∈ Region.ready md ops done, n ≤ j) (f : Nat) :
    ∀ (done : Array Bool) (a : Act), HeadInv md ops n done →
      (∀ j oj, ops[j]? = some oj → j ≠ i → done.getD j true = false → (∀ e ∈ oj.after, Region.binds md e = true → e.on ≠ i) → oi.apart ops oj = true) →
      i ∈ Region.ready md ops done → YieldsIn P ops C oi v a →
      heads P md ops C n L f (done.setIfInBounds i true) (a.put oi.dst v) → heads P md ops C n L (f + 1) done a := by
  induction f with
  | zero =>
    intro done a inv _ hr hy H
    refine ⟨⟨i, hr⟩, fun j hj => ?_⟩
    have hjn : j < n := Nat.lt_of_not_le fun h => tail_waits hs hc hn inv _ i rfl hin (mem_ready.1 hr).1 j h hj
    refine ⟨hjn, ?_⟩
    by_cases e : j = i
    · subst e; exact hy.qOp hi H
    · exact absurd (hend _ _ H j (ready_mono hj e)) (by omega)
  | succ f ih =>
    intro done a inv hfree hr hy H
    have hun := (mem_ready.1 hr).1
    refine ⟨⟨i, hr⟩, fun j hj => ?_⟩
    have hjn : j < n := Nat.lt_of_not_le fun h => tail_waits hs hc hn inv _ i rfl hin hun j h hj
    refine ⟨hjn, ?_⟩
    by_cases e : j = i
    · subst e; exact hy.qOp hi H
    · obtain ⟨hjun, oj, hoj, hall⟩ := mem_ready.1 hj
      have hno : ∀ x ∈ oj.after, Region.binds md x = true → x.on ≠ i := by
        intro x hx hb hxi
        have := hall x hx hb
        rw [hxi, getD_both hun] at this
        cases this
      have hap := hfree j oj hoj e hjun hno
      have step := qOp_put hoj hap (fun cs b => hsel i oi cs b hi) (fun cs b => hsel j oj cs b hoj) hy (H.2 j (ready_mono hj e)).2
      refine qOp_mono (fun a' ha' => ?_) step
      refine ih (done.setIfInBounds j true) a' (inv.set hj hjn) ?_ (ready_mono hr (Ne.symm e)) ha'.1 ?_
      · intro k ok hk hki hun' hno'
        refine hfree k ok hk hki ?_ hno'
        by_cases ejk : j = k
        · subst ejk; exact hjun
        · rw [getD_set_ne true ejk] at hun'; exact hun'
      · rw [Array.setIfInBounds_comm _ _ e]; exact ha'.2

theorem heads_lex {g : Nat} {Lq : Act → Prop} (hsel : Region.noSelect ops = true) (hs : Region.sinkB md ops n = true) (hc : Region.chainB md ops n = true) (hn : n < ops.size) :
    ∀ (l : List Oper) (k : Nat) (done : Array Bool) (a : Act), (∀ j, j < l.length → l[j]? = ops[k + j]?) → k + l.length = n → HeadInv md ops n done →
    Region.lexHead md ops g l.length k done = true → wpQuiet P ops C Lq l a → heads P md ops C n (fun d b => Region.seqB md ops g n d = true ∧ Lq b) l.length done a := by
  intro l
  induction l with
  | nil =>
    intro k done a _ hk _ hB h
    obtain rfl : k = n := by simpa using hk
    exact ⟨hB, h⟩
  | cons o l ih =>
    intro k done a hl hk inv hB h
    have h0 : ops[k]? = some o := (hl 0 (by simp)).symm
    simp only [List.length_cons, Region.lexHead, Bool.and_eq_true] at hB
    obtain ⟨⟨hr, hf⟩, hB'⟩ := hB
    simp only [List.length_cons] at hk
    have hr' : k ∈ Region.ready md ops done := by simpa using hr
    obtain ⟨v, hy, hK⟩ := yieldsIn_of_qOp (K := wpQuiet P ops C Lq l) h0 (by unfold qOp; simp only [h0]; exact h)
    refine heads_first h0 (Region.noSelect_spec hsel) hs hc hn (by omega) (fun d b hd => seqB_ready hd.1) l.length done a inv (Region.free_spec h0 hf) hr' hy ?_
    refine ih (k + 1) _ _ (fun j hj => ?_) (by omega) (inv.set hr' (by omega)) hB' hK
    have := hl (j + 1) (by simp; omega)
    rw [show k + 1 + j = k + (j + 1) by omega]
    simpa using this

theorem wp_region_class_tail {id : Nat} {Q : Exit → Act → World → Prop} {a : Act} {w : World} {l : List Oper} (n : Nat) (hm : P.follows .mixedOrders = true) (hB : Region.lexTailB .any l.toArray n = true) (hC : C w.drew)
    (h : wpQuiet P l.toArray C (fun a' => ∀ w', C w' → wpList P l.toArray Q (l.drop n) a' w') (l.take n) a) : (Code.region id l.toArray true).wp P Q a w := by
  simp only [Region.lexTailB, Bool.and_eq_true, decide_eq_true_eq] at hB
  obtain ⟨⟨⟨⟨hsel, hn⟩, hs⟩, hc⟩, hlex⟩ := hB
  have hnl : n < l.length := by simpa using hn
  have e1 : (l.take n).length = n := by simp; omega
  have e2 : (l.drop n).length = l.toArray.size - n := by simp
  have inv0 : HeadInv .any l.toArray n (Array.replicate l.toArray.size false) :=
    ⟨by simp, fun j oj _ hj => (by rw [getD_replicate_false] at hj; cases hj), fun t _ ht => getD_in (by simpa using ht) (getD_replicate_false _ _)⟩
  have H := heads_lex (P := P) (C := C) (md := .any) (g := l.toArray.size - n) hsel hs hc hn (l.take n) 0 _ a
    (fun j hj => by rw [e1] at hj; simp [hj]) (by omega) inv0 (by rw [e1]; exact hlex) h
  rw [e1] at H
  refine wp_region_any hm ?_
  have := any_of_heads (Q' := Q) (g := l.toArray.size - n) (fun d b w' hw' hL => by
    have := wpAny_of_seq (md := .any) (Q' := Q) (l.drop n) n d b w' (fun j => by simp [List.getElem?_drop]) (by rw [e2]; exact hL.1) (hL.2 w' hw')
    rwa [e2] at this) n _ a w.drew hC H
  rw [show n + (l.toArray.size - n) = l.toArray.size by omega] at this
  exact this

theorem wp_region_grows_tail {id : Nat} {Q : Exit → Act → World → Prop} {a : Act} {w : World} {l : List Oper} (n : Nat) (hm : P.follows .mixedOrders = true) (hB : Region.lexTailB .any l.toArray n = true)
    (h : wpQuiet P l.toArray (fun w' => ∃ x : More, w' = xt w x.o x.d) (fun a' => ∀ w', (∃ x : More, w' = xt w x.o x.d) → wpList P l.toArray Q (l.drop n) a' w') (l.take n) a) : (Code.region id l.toArray true).wp P Q a w :=
  wp_region_class_tail n hm hB (let ⟨O, d, h⟩ := grows_drew w; ⟨⟨O, d⟩, h⟩) h
theorem wp_region_grows_tailx {id : Nat} {Q : Exit → Act → World → Prop} {a : Act} {w : World} {O : Array Obj} {d : Nat} {l : List Oper} (n : Nat) (hm : P.follows .mixedOrders = true) (hB : Region.lexTailB .any l.toArray n = true)
    (h : wpQuiet P l.toArray (fun w' => ∃ x : More, w' = xt w x.o x.d) (fun a' => ∀ w', (∃ x : More, w' = xt w x.o x.d) → wpList P l.toArray Q (l.drop n) a' w') (l.take n) a) : (Code.region id l.toArray true).wp P Q a (xt w O d) :=
  wp_region_class_tail n hm hB ⟨⟨O, d + 1⟩, rfl⟩ h
end
end Go.Proofs.YtadldblpkgackaaGreatDoor

/-! Lists in memory: what a slice reads as, and that this stays while memory only grows. No conditions. -/
set_option linter.unusedVariables false
set_option linter.unusedSimpArgs false
namespace Go.Proofs.YtadldblpkgackaaGreatDoor
open Go.RowKit

def Wide (x : Int) : Prop := -9223372036854775808 ≤ x ∧ x ≤ 9223372036854775807
/-- A length that a slice can have. -/
def Fit (n : Nat) : Prop := n ≤ 140737488351232

/-- The elements of a slice at the address ao: element k takes n cells and is what R says. -/
def SlOf {α : Type} (n : Nat) (R : World → Nat → Nat → α → Prop) (w : World) (ao : Option Addr) (xs : List α) : Prop :=
  ∀ k (h : k < xs.length), ∃ b o, ao = some ⟨b, o, none⟩ ∧ R w b (o + k * n) xs[k]
def Mono {α : Type} (R : World → Nat → Nat → α → Prop) : Prop := ∀ w w' b o x, Gr w w' → R w b o x → R w' b o x
theorem SlOf.gr {α : Type} {n : Nat} {R : World → Nat → Nat → α → Prop} (hR : Mono R) {w w' : World} {ao : Option Addr} {xs : List α} (h : SlOf n R w ao xs) (hg : Gr w w') : SlOf n R w' ao xs := by
  intro k hk
  obtain ⟨b, o, h1, h2⟩ := h k hk
  exact ⟨b, o, h1, hR _ _ _ _ _ hg h2⟩
theorem SlOf.nil {α : Type} (n : Nat) (R : World → Nat → Nat → α → Prop) (w : World) (ao : Option Addr) : SlOf n R w ao [] := fun k h => by simp at h
theorem SlOf.one {α : Type} {R : World → Nat → Nat → α → Prop} {w : World} {ao : Option Addr} {xs : List α} (h : SlOf 1 R w ao xs) (k : Nat) (hk : k < xs.length) : ∃ b o, ao = some ⟨b, o, none⟩ ∧ R w b (o + k) xs[k] := by
  have := h k hk; rwa [Nat.mul_one] at this
theorem SlOf.all {α : Type} {n : Nat} {R : World → Nat → Nat → α → Prop} {w : World} {ao : Option Addr} {xs : List α} (h : SlOf n R w ao xs) (h0 : 0 < xs.length) : ∃ b o, ao = some ⟨b, o, none⟩ ∧ ∀ k (hk : k < xs.length), R w b (o + k * n) xs[k] := by
  obtain ⟨b, o, e, _⟩ := h 0 h0
  refine ⟨b, o, e, fun k hk => ?_⟩
  obtain ⟨b', o', e', h'⟩ := h k hk
  rw [e] at e'
  cases e'
  exact h'
theorem SlOf.all1 {α : Type} {R : World → Nat → Nat → α → Prop} {w : World} {ao : Option Addr} {xs : List α} (h : SlOf 1 R w ao xs) (h0 : 0 < xs.length) : ∃ b o, ao = some ⟨b, o, none⟩ ∧ ∀ k (hk : k < xs.length), R w b (o + k) xs[k] := by
  obtain ⟨b, o, e, h'⟩ := h.all h0
  exact ⟨b, o, e, fun k hk => by have := h' k hk; rwa [Nat.mul_one] at this⟩
theorem cell_gr {w w' : World} {b o : Nat} {s : Option Nat} {v : Value} (hg : Gr w w') (h : w.cell? ⟨b, o, s⟩ = some v) : w'.cell? ⟨b, o, s⟩ = some v := by
  obtain ⟨O, d, rfl⟩ := hg
  rw [cell?_xt (has_of_cell h)]; exact h

def RI (w : World) (b o : Nat) (x : Int) : Prop := w.cell? ⟨b, o, none⟩ = some (.int .i64 x) ∧ Wide x
def RB (w : World) (b o : Nat) (x : Bool) : Prop := w.cell? ⟨b, o, none⟩ = some (.bool x)
def RSl {α : Type} (n : Nat) (R : World → Nat → Nat → α → Prop) (w : World) (b o : Nat) (xs : List α) : Prop :=
  ∃ ao cap, w.cell? ⟨b, o, none⟩ = some (.slice ao xs.length cap) ∧ xs.length ≤ cap ∧ Fit xs.length ∧ SlOf n R w ao xs
theorem RI.mono : Mono RI := fun _ _ _ _ _ hg h => ⟨cell_gr hg h.1, h.2⟩
theorem RB.mono : Mono RB := fun _ _ _ _ _ hg h => cell_gr hg h
theorem RSl.mono {α : Type} {n : Nat} {R : World → Nat → Nat → α → Prop} (hR : Mono R) : Mono (RSl n R) := fun _ _ _ _ _ hg ⟨ao, cap, h1, h2, h3, h4⟩ =>
  ⟨ao, cap, cell_gr hg h1, h2, h3, h4.gr hR hg⟩
theorem SlOf.giI {w w' : World} {ao : Option Addr} {xs : List Int} (h : SlOf 1 RI w ao xs) (hg : Gr w w') : SlOf 1 RI w' ao xs := h.gr RI.mono hg
theorem SlOf.giB {w w' : World} {ao : Option Addr} {xs : List Bool} (h : SlOf 1 RB w ao xs) (hg : Gr w w') : SlOf 1 RB w' ao xs := h.gr RB.mono hg
/-- The call returns a slice that reads as xs, and the world has only grown. -/
def GivesSl {α : Type} (n : Nat) (R : World → Nat → Nat → α → Prop) (w : World) (xs : List α) (e : Ending) (w' : World) : Prop :=
  ∃ ao cap, e = .returned (.slice ao xs.length cap) ∧ xs.length ≤ cap ∧ Fit xs.length ∧ SlOf n R w' ao xs ∧ Gr w w'

/-! Rows of the call's own -/
/-- Block B is a row of the cells vs, none of them frozen. -/
def Row (w : World) (B T : Nat) (vs : List Value) : Prop := w.heap[B]? = some (.cells vs.toArray T (0, 0))
theorem Row.cell {w : World} {B T : Nat} {vs : List Value} (h : Row w B T vs) (k : Nat) (hk : k < vs.length) : w.cell? ⟨B, k, none⟩ = some vs[k] := by
  unfold Row at h
  simp [World.cell?, h, hk]
theorem Row.free {w : World} {B T : Nat} {vs : List Value} (h : Row w B T vs) (k : Nat) : w.frozen? ⟨B, k, none⟩ = false := by
  unfold Row at h
  simp [World.frozen?, h]
theorem Row.has {w : World} {B T : Nat} {vs : List Value} (h : Row w B T vs) : Has w B := by
  unfold Row at h
  exact (Array.getElem?_eq_some_iff.1 h).1
theorem Row.set {w : World} {B T : Nat} {vs : List Value} (h : Row w B T vs) (k : Nat) (v : Value) : Row (w.setCell ⟨B, k, none⟩ v) B T (vs.set k v) := by
  unfold Row at *
  simp [World.setCell, Array.getElem?_modify, h]
theorem Row.other {w : World} {B T : Nat} {vs : List Value} (h : Row w B T vs) (a : Addr) (v : Value) (ha : a.block ≠ B) : Row (w.setCell a v) B T vs := by
  unfold Row at *
  simp [World.setCell, Array.getElem?_modify, ha, h]
theorem Row.oth {w : World} {B T b o : Nat} {vs : List Value} {v : Value} (h : Row w B T vs) (ha : b ≠ B) : Row (w.setCell ⟨b, o, none⟩ v) B T vs := h.other _ _ ha
theorem Gr.setc {w w' : World} {b o : Nat} {v : Value} (hb : w.heap.size ≤ b) (h : Gr w w') : Gr w (w'.setCell ⟨b, o, none⟩ v) := h.setCell hb v
theorem Row.gr {w w' : World} {B T : Nat} {vs : List Value} (h : Row w B T vs) (hg : Gr w w') : Row w' B T vs := by
  have hb := h.has
  unfold Row at *
  obtain ⟨O, d, rfl⟩ := hg
  rw [block_xt w O d B hb]; exact h
theorem Row.alloc {w : World} {B T : Nat} {vs : List Value} (o : Obj) (h : Row w B T vs) : Row (w.alloc o) B T vs := h.gr ((Gr.refl w).alloc o)
theorem Row.xt {w : World} {B T : Nat} {vs : List Value} (O : Array Obj) (d : Nat) (h : Row w B T vs) : Row (xt w O d) B T vs := h.gr ((Gr.refl w).xt O d)
theorem Row.drew {w : World} {B T : Nat} {vs : List Value} (h : Row w B T vs) : Row w.drew B T vs := h.gr (Gr.refl w).drew
theorem Row.drewN {w : World} {B T : Nat} {vs : List Value} (n : Nat) (h : Row w B T vs) : Row (w.drewN n) B T vs := h.gr ((Gr.refl w).drewN n)
theorem Row.new (w : World) (arr : Array Value) (T : Nat) : Row (w.alloc (.cells arr T)) w.heap.size T arr.toList := by
  unfold Row
  rw [Go.Deep.blk_alloc_new w _]
end Go.Proofs.YtadldblpkgackaaGreatDoor

/-! The tape that the statements read their numbers from: what its functions return, as far as the statements need it (a number in the range that is asked for), and that they move the tape's place and nothing else. -/
set_option linter.unusedVariables false
set_option linter.unusedSimpArgs false
namespace Go.Proofs.YtadldblpkgackaaGreatDoor
open Go.RowKit

theorem setCell_id {w : World} {a : Addr} {v : Value} (h : w.cell? a = some v) : w.setCell a v = w := by
  unfold World.setCell
  unfold World.cell? at h
  cases w with
  | mk heap tape drawn os output =>
  simp only [World.mk.injEq, and_true] at *
  apply Array.ext_getElem?
  intro i
  rw [Array.getElem?_modify]
  split
  · rename_i e
    subst e
    cases hb : heap[a.block]? with
    | none => simp
    | some o =>
      simp only [hb] at h
      cases o with
      | cells c t f =>
        simp only at h
        split at h
        · cases h
        · rename_i hs
          simp only [Option.map_some, Option.some.injEq, hs]
          congr 1
          apply Array.ext_getElem?
          intro j
          simp only [Bool.false_eq_true, if_false]
          rw [Array.getElem?_setIfInBounds]
          split
          · rename_i e; subst e; split
            · exact h.symm
            · rename_i hn; rw [Array.getElem?_eq_none (by omega)] at h; cases h
          · rfl
      | _ => cases h
  · rfl
@[simp, go_sem] theorem setCell_setCell (w : World) (a : Addr) (u v : Value) : (w.setCell a u).setCell a v = w.setCell a v := by
  unfold World.setCell
  congr 1
  apply Array.ext_getElem?
  intro i
  simp only [Array.getElem?_modify]
  split
  · cases w.heap[i]? with
    | none => rfl
    | some o =>
      cases o with
      | cells c t f =>
        simp only [Option.map_some, Option.some.injEq]
        congr 1
        split
        · rfl
        · apply Array.ext_getElem?
          intro j
          simp only [Array.getElem?_setIfInBounds, Array.size_setIfInBounds]
          split <;> rfl
      | _ => rfl
  · rfl

/-- The elements of a list of numbers that came in. -/
def IntsIn (w : World) (b : Nat) (ao : Option Addr) (len : Nat) : Prop :=
  ∀ k, k < len → ∃ eb eo x, ao = some ⟨eb, eo, none⟩ ∧ eb ≠ b ∧ w.cell? ⟨eb, eo + k, none⟩ = some (.int .i64 x) ∧ -9223372036854775808 ≤ x ∧ x ≤ 9223372036854775807
/-- Block b is a tape of len numbers at place p. -/
def Tape (w : World) (b : Nat) (p : Int) (len : Nat) : Prop :=
  ∃ ao cap, w.cell? ⟨b, 0, none⟩ = some (.slice ao len cap) ∧ w.cell? ⟨b, 1, none⟩ = some (.int .i64 p) ∧ w.frozen? ⟨b, 1, none⟩ = false ∧ 0 ≤ p ∧ p ≤ len ∧ len ≤ 500 ∧ IntsIn w b ao len
theorem Tape.has {w : World} {b : Nat} {p : Int} {len : Nat} (h : Tape w b p len) : Has w b := by
  obtain ⟨ao, cap, h1, _⟩ := h; exact has_of_cell h1
theorem IntsIn.gr {w w' : World} {b : Nat} {ao : Option Addr} {len : Nat} (h : IntsIn w b ao len) (hg : Gr w w') : IntsIn w' b ao len := by
  intro k hk
  obtain ⟨eb, eo, x, h1, h2, h3, h4⟩ := h k hk
  obtain ⟨O, d, rfl⟩ := hg
  exact ⟨eb, eo, x, h1, h2, by rw [cell?_xt (has_of_cell h3)]; exact h3, h4⟩
theorem Tape.gr {w w' : World} {b : Nat} {p : Int} {len : Nat} (h : Tape w b p len) (hg : Gr w w') : Tape w' b p len := by
  have hb := h.has
  obtain ⟨ao, cap, h1, h2, h3, h4, h5, h6, h7⟩ := h
  have h7' := h7.gr hg
  obtain ⟨O, d, rfl⟩ := hg
  exact ⟨ao, cap, by rw [cell?_xt hb]; exact h1, by rw [cell?_xt hb]; exact h2, by rw [frozen?_xt hb]; exact h3, h4, h5, h6, h7'⟩
theorem Tape.alloc {w : World} {b : Nat} {p : Int} {len : Nat} (o : Obj) (h : Tape w b p len) : Tape (w.alloc o) b p len := h.gr ((Gr.refl w).alloc o)
theorem Tape.xt {w : World} {b : Nat} {p : Int} {len : Nat} (O : Array Obj) (d : Nat) (h : Tape w b p len) : Tape (xt w O d) b p len := h.gr ⟨O, d, rfl⟩
theorem Tape.drew {w : World} {b : Nat} {p : Int} {len : Nat} (h : Tape w b p len) : Tape w.drew b p len := h.gr (Gr.refl w).drew
theorem Tape.drewN {w : World} {b : Nat} {p : Int} {len : Nat} (n : Nat) (h : Tape w b p len) : Tape (w.drewN n) b p len := h.gr ((Gr.refl w).drewN n)
theorem Tape.set {w : World} {b : Nat} {p : Int} {len : Nat} (h : Tape w b p len) {p' : Int} (h0 : 0 ≤ p') (h1 : p' ≤ len) : Tape (w.setCell ⟨b, 1, none⟩ (.int .i64 p')) b p' len := by
  obtain ⟨ao, cap, c0, c1, c2, c3, c4, c5, c6⟩ := h
  refine ⟨ao, cap, ?_, ?_, ?_, h0, h1, c5, ?_⟩
  · rw [World.cell?_setCell_other _ _ _ _ (by simp)]; exact c0
  · exact World.cell?_setCell_same _ _ _ c1
  · rw [World.frozen?_setCell]; exact c2
  · intro k hk
    obtain ⟨eb, eo, x, d1, d2, d3, d4⟩ := c6 k hk
    exact ⟨eb, eo, x, d1, d2, by rw [World.cell?_setCell_other _ _ _ _ (by simp)]; exact d3, d4⟩

/-- A number is read off the tape in block b. -/
def Reads (w : World) (b len : Nat) (S : Int → Prop) (e : Ending) (w' : World) : Prop :=
  ∃ x p', e = .returned (.int .i64 x) ∧ S x ∧ 0 ≤ p' ∧ p' ≤ (len : Int) ∧ Gr (w.setCell ⟨b, 1, none⟩ (.int .i64 p')) w'

def InTo (lo hi x : Int) : Prop := lo ≤ x ∧ x ≤ hi

set_option maxHeartbeats 400000 in
theorem raw_any (w : World) (b len : Nat) (p : Int) (h : Tape w b p len) :
    Calls Tryz.prog 53 #[.pointer (some ⟨b, 0, none⟩)] w (Reads w b len Wide) := by
  have hb := h.has
  obtain ⟨ao, cap, c0, c1, c2, c3, c4, c5, c6⟩ := h
  by_cases hp : p < len
  · obtain ⟨k, rfl⟩ := Int.eq_ofNat_of_zero_le c3
    obtain ⟨eb, eo, x, d1, d2, d3, d4, d5⟩ := c6 k (by omega)
    subst d1
    have d6 := has_of_cell d3
    have d7 : (w.setCell ⟨b, 1, none⟩ (.int .i64 (k + 1))).cell? ⟨eb, eo + k, none⟩ = some (.int .i64 x) := by
      rw [World.cell?_setCell_other _ _ _ _ (by simp)]; exact d3
    clear c6
    go_enter Tryz.func53, Tryz.ntmps53
    go_wp2
    go_quiet (fail)
    go_wp2
    have e1 : (k : Int) + 1 - 1 = k := by omega
    go_quiet (fail)
    go_wp2
    go_ret
    refine ⟨x, (k : Int) + 1, rfl, ⟨d4, d5⟩, by omega, by omega, ?_⟩
    repeat (first | exact Gr.refl _ | refine Gr.xt _ _ ?_ | refine Gr.alloc _ ?_ | refine Gr.drewN _ ?_)
  · have hp' : (len : Int) ≤ p := by omega
    clear c6
    go_enter Tryz.func53, Tryz.ntmps53
    go_wp2
    go_quiet (fail)
    go_wp2
    go_ret
    exact ⟨0, p, rfl, by unfold Wide; omega, c3, c4, by rw [setCell_id c1]; exact (Gr.refl w).drewN _⟩

theorem tmod_fix (x n : Int) (hn : 1 ≤ n) : (x.tmod n < 0 → x.tmod n + n = x % n) ∧ (0 ≤ x.tmod n → x.tmod n = x % n) := by
  have h := @Int.tmod_eq_emod x n
  have h1 := Int.emod_nonneg x (show n ≠ 0 by omega)
  have h2 := Int.emod_lt_of_pos x (show 0 < n by omega)
  have h3 : (n.natAbs : Int) = n := by omega
  split at h <;> constructor <;> intro h4 <;> omega

set_option maxHeartbeats 400000 in
theorem mod_any (x n : Int) (w : World) (hx : Wide x) (hn : 1 ≤ n) (hn1 : n ≤ 9223372036854775807) :
    Calls Tryz.prog 52 #[.int .i64 x, .int .i64 n] w fun e w' => e = .returned (.int .i64 (x % n)) ∧ w = w' := by
  obtain ⟨hx0, hx1⟩ := hx
  have h := tmod_fix x n hn
  have h1 := Int.emod_nonneg x (show n ≠ 0 by omega)
  have h2 := Int.emod_lt_of_pos x (show 0 < n by omega)
  have h3 := Int.tmod_lt_of_pos x (show 0 < n by omega)
  have h4 : -n ≤ x.tmod n := by
    rcases Int.lt_or_le (x.tmod n) 0 with q | q
    · have := h.1 q; omega
    · omega
  have H := Lib.hid h
  clear h
  by_cases hs : x.tmod n < 0
  · have := H.out.1 hs
    have T := Lib.hid this
    clear this
    go_enter Tryz.func52, Tryz.ntmps52
    go_wp2
    go_ret
    exact ⟨ret_int T.out, rfl⟩
  · have := H.out.2 (by omega)
    have T := Lib.hid this
    clear this
    go_enter Tryz.func52, Tryz.ntmps52
    go_wp2
    go_ret
    exact ⟨ret_int T.out, rfl⟩

set_option maxHeartbeats 400000 in
theorem n_any (w : World) (b len : Nat) (p n : Int) (h : Tape w b p len) (hn : 1 ≤ n) (hn1 : n ≤ 9223372036854775807) :
    Calls Tryz.prog 17 #[.pointer (some ⟨b, 0, none⟩), .int .i64 n] w (Reads w b len (InTo 0 (n - 1))) := by
  have H := Lib.hid h
  clear h
  go_enter Tryz.func17, Tryz.ntmps17
  go_wp2_with fail
  refine (raw_any _ b len p H.out).mono ?_
  rintro e w' ⟨x, p', rfl, hx, q0, q1, O, d, rfl⟩
  have hx0 := hx.1
  have hx1 := hx.2
  go_wp2_with fail
  refine (mod_any x n _ hx hn hn1).mono ?_
  rintro e w' ⟨rfl, rfl⟩
  go_wp2_with fail
  go_ret
  exact ⟨x % n, p', rfl, ⟨Int.emod_nonneg x (show n ≠ 0 by omega), by have := Int.emod_lt_of_pos x (show 0 < n by omega); omega⟩, q0, q1, O, d, rfl⟩

set_option maxHeartbeats 400000 in
theorem range_any (w : World) (b len : Nat) (p lo hi : Int) (h : Tape w b p len) (hl : 0 ≤ lo) (hh : lo ≤ hi) (hh1 : hi ≤ 9223372036854775806) :
    Calls Tryz.prog 62 #[.pointer (some ⟨b, 0, none⟩), .int .i64 lo, .int .i64 hi] w (Reads w b len (InTo lo hi)) := by
  have H := Lib.hid h
  clear h
  go_enter Tryz.func62, Tryz.ntmps62
  go_wp2_with fail
  refine (n_any _ b len p _ H.out (by omega) (by omega)).mono ?_
  rintro e w' ⟨x, p', rfl, hx, q0, q1, O, d, rfl⟩
  have hx0 := hx.1
  have hx1 := hx.2
  go_wp2_with fail
  go_ret
  exact ⟨lo + x, p', rfl, ⟨by omega, by omega⟩, q0, q1, O, d, rfl⟩

set_option maxHeartbeats 400000 in
theorem pick_any (w : World) (b len : Nat) (p : Int) (h : Tape w b p len) (eb n : Nat) (S : Int → Prop) (hn : 1 ≤ n) (hn1 : n ≤ 1000) (hne : eb ≠ b) (hel : ∀ k, k < n → ∃ x, w.cell? ⟨eb, k, none⟩ = some (.int .i64 x) ∧ S x) :
    Calls Tryz.prog 63 #[.pointer (some ⟨b, 0, none⟩), .slice (some ⟨eb, 0, none⟩) n n] w (Reads w b len S) := by
  have H := Lib.hid h
  have HE := Lib.hid hel
  clear h hel
  go_enter Tryz.func63, Tryz.ntmps63
  go_wp2_with fail
  refine (n_any _ b len p _ H.out (by omega) (by omega)).mono ?_
  rintro e w' ⟨y, p', rfl, hy, q0, q1, O, d, rfl⟩
  have hy0 := hy.1
  have hy1 := hy.2
  obtain ⟨k, rfl⟩ := Int.eq_ofNat_of_zero_le hy0
  obtain ⟨x, hx, hS⟩ := HE.out k (by omega)
  have hHas := has_of_cell hx
  have hx' : (w.setCell ⟨b, 1, none⟩ (.int .i64 p')).cell? ⟨eb, k, none⟩ = some (.int .i64 x) := by
    rw [World.cell?_setCell_other _ _ _ _ (by simp)]; exact hx
  have hk : (k : Int) < n := by omega
  have hS' := Lib.hid hS
  clear hS
  go_wp2_with fail
  go_ret
  exact ⟨x, p', rfl, hS'.out, q0, q1, O, d, rfl⟩
end Go.Proofs.YtadldblpkgackaaGreatDoor
