/- Lemmas and contracts for the proof of RampAnswers (several texts in one, printed by wip/tools/pack.py): Ka Kd. -/
import Derived.Test.YtoenkcojfogmmaaRows
import Derived.WalkKit
import Derived.WalkSpells
import Derived.WalkLawsBesides
import Derived.Deep.QuietTactic
import Derived.BigQuiet
import Derived.Lib.Hide
import Derived.StillTailTactics
import Derived.Deep.RegionHeld3
import Derived.Deep.DrawnRows
import Derived.Deep.OwnRows
import Derived.OpenShut
import Derived.Maps.AppendAt
import Derived.Deep.RegionLaw
import Derived.Deep.AppendLies
import Derived.Deep.DeepCutAuto
set_option maxRecDepth 100000
set_option maxHeartbeats 16000000

/-! Worlds that have only grown: 'xt w O d' is the world w with the blocks O behind its own and the count of draws at d. Every world that is as w was below w's own size is such a one. No conditions. -/
set_option linter.unusedVariables false
set_option linter.unusedSimpArgs false
namespace Go.Proofs.Ytoenkcojfogmmaa
open Go.RowKit
def xt (w : World) (O : Array Obj) (d : Nat) : World := { w with heap := w.heap ++ O, drawn := d }
@[simp, go_sem] theorem heap_size_xt (w : World) (O : Array Obj) (d : Nat) : (xt w O d).heap.size = w.heap.size + O.size := by
  simp [xt]
@[simp, go_sem] theorem tape_xt (w : World) (O : Array Obj) (d : Nat) : (xt w O d).tape = w.tape := rfl
theorem block_xt (w : World) (O : Array Obj) (d k : Nat) (h : k < w.heap.size) : (xt w O d).heap[k]? = w.heap[k]? := by
  simp only [xt]; rw [Array.getElem?_append_left h]
def Has (w : World) (b : Nat) : Prop := b < w.heap.size
@[simp, go_sem] theorem has_alloc (w : World) (o : Obj) (b : Nat) : Has (w.alloc o) b = (b = w.heap.size ∨ Has w b) := by
  simp only [Has, World.size_alloc, eq_iff_iff]; omega
@[simp, go_sem] theorem has_drew (w : World) (b : Nat) : Has w.drew b = Has w b := rfl
@[simp, go_sem] theorem has_drewN (w : World) (n b : Nat) : Has (w.drewN n) b = Has w b := rfl
@[simp, go_sem] theorem has_setCell (w : World) (a : Addr) (v : Value) (b : Nat) : Has (w.setCell a v) b = Has w b := by
  simp [Has, World.setCell]
@[simp, go_sem] theorem has_xt (w : World) (O : Array Obj) (d b : Nat) : Has (xt w O d) b = (Has w b ∨ (w.heap.size ≤ b ∧ b < w.heap.size + O.size)) := by
  simp only [Has, heap_size_xt, eq_iff_iff]; omega
theorem has_of_cell {w : World} {b o : Nat} {s : Option Nat} {v : Value} (h : w.cell? ⟨b, o, s⟩ = some v) : Has w b := by
  unfold Has
  rcases Nat.lt_or_ge b w.heap.size with h1 | h1
  · exact h1
  · simp [World.cell?, Array.getElem?_eq_none h1] at h
@[simp, go_sem] theorem cell?_xt {w : World} {O : Array Obj} {d b o : Nat} {s : Option Nat} (h : Has w b) : (xt w O d).cell? ⟨b, o, s⟩ = w.cell? ⟨b, o, s⟩ :=
  World.cell?_of_block (w := w) (block_xt w O d b h)
@[simp, go_sem] theorem frozen?_xt {w : World} {O : Array Obj} {d b o : Nat} {s : Option Nat} (h : Has w b) : (xt w O d).frozen? ⟨b, o, s⟩ = w.frozen? ⟨b, o, s⟩ :=
  World.frozen?_of_block (w := w) (block_xt w O d b h)
@[simp, go_sem] theorem cell?_alloc_has {w : World} {x : Obj} {b o : Nat} {s : Option Nat} (h : Has w b) : (w.alloc x).cell? ⟨b, o, s⟩ = w.cell? ⟨b, o, s⟩ :=
  World.cell?_alloc_lt w x ⟨b, o, s⟩ h
@[simp, go_sem] theorem frozen?_alloc_has {w : World} {x : Obj} {b o : Nat} {s : Option Nat} (h : Has w b) : (w.alloc x).frozen? ⟨b, o, s⟩ = w.frozen? ⟨b, o, s⟩ :=
  World.frozen?_of_block (w := w) (Below.heap_alloc w x b h)
@[simp, go_sem] theorem xt_xt (w : World) (O O' : Array Obj) (d d' : Nat) : xt (xt w O d) O' d' = xt w (O ++ O') d' := by
  simp [xt]
@[simp, go_sem] theorem drew_xt (w : World) (O : Array Obj) (d : Nat) : (xt w O d).drew = xt w O (d + 1) := rfl
@[simp, go_sem] theorem xt_drew (w : World) (O : Array Obj) (d : Nat) : xt w.drew O d = xt w O d := rfl
@[simp, go_sem] theorem xt_drewN (w : World) (O : Array Obj) (n d : Nat) : xt (w.drewN n) O d = xt w O d := rfl
theorem setCell_xt (w : World) (O : Array Obj) (d : Nat) (a : Addr) (v : Value) (h : a.block < w.heap.size) : (xt w O d).setCell a v = xt (w.setCell a v) O d := by
  unfold xt World.setCell
  congr 1
  apply Array.ext_getElem?
  intro i
  simp only [Array.getElem?_modify, Array.getElem?_append, Array.size_modify]
  by_cases e : a.block = i
  · subst e; simp [h]
  · simp [e]
@[simp, go_sem] theorem setCell_xt_has {w : World} {O : Array Obj} {d b o : Nat} {s : Option Nat} {v : Value} (h : Has w b) : (xt w O d).setCell ⟨b, o, s⟩ v = xt (w.setCell ⟨b, o, s⟩ v) O d :=
  setCell_xt w O d ⟨b, o, s⟩ v h
@[simp, go_sem] theorem setCell_alloc_has {w : World} {x : Obj} {b o : Nat} {v : Value} (h : Has w b) : (w.alloc x).setCell ⟨b, o, none⟩ v = (w.setCell ⟨b, o, none⟩ v).alloc x :=
  World.setCell_alloc_past x b o v h
theorem below_xt (w : World) (O : Array Obj) (d : Nat) : Below w.heap.size w (xt w O d) :=
  ⟨rfl, rfl, rfl, by simp, fun k hk => block_xt w O d k hk⟩
theorem below_of_xt {w w' : World} (h : ∃ O d, w' = xt w O d) : Below w.heap.size w w' := by
  obtain ⟨O, d, rfl⟩ := h; exact below_xt w O d
theorem xt_of_below {w w' : World} (h : Below w.heap.size w w') : ∃ O d, w' = xt w O d := by
  refine ⟨w'.heap.extract w.heap.size w'.heap.size, w'.drawn, ?_⟩
  obtain ⟨h1, h2, h3, h4, h5⟩ := h
  cases w' with
  | mk heap tape drawn os output =>
  simp only at h1 h2 h3 h4 h5
  subst h1 h2 h3
  simp only [xt, World.mk.injEq, and_true]
  apply Array.ext_getElem?
  intro i
  by_cases hi : i < w.heap.size
  · rw [h5 i hi, Array.getElem?_append_left hi]
  · rw [Array.getElem?_append_right (by omega), Array.getElem?_extract]
    by_cases h' : i < heap.size
    · rw [if_pos (by omega)]; congr 1; omega
    · rw [if_neg (by omega), Array.getElem?_eq_none (by omega)]
theorem xt_self (w : World) : w = xt w #[] w.drawn := by simp [xt]
theorem grows_refl (w : World) : ∃ O d, w = xt w O d := ⟨_, _, xt_self w⟩
theorem grows_drew (w : World) : ∃ O d, w.drew = xt w O d := ⟨#[], w.drawn + 1, by show ({ w with drawn := w.drawn + 1 } : World) = _; simp [xt]⟩
theorem grows_trans {w w' w'' : World} (h : ∃ O d, w' = xt w O d) (k : ∃ O d, w'' = xt w' O d) : ∃ O d, w'' = xt w O d := by
  obtain ⟨O, d, rfl⟩ := h; obtain ⟨O', d', rfl⟩ := k; exact ⟨O ++ O', d', xt_xt _ _ _ _ _⟩
structure More where
  o : Array Obj
  d : Nat
instance : Nonempty More := ⟨⟨#[], 0⟩⟩
theorem wp_region_grows {P : Program} {id : Nat} {Q : Exit → Act → World → Prop} {a : Act} {w : World} {l : List Oper} (hm : P.follows .mixedOrders = true) (hB : Region.lexB .any l.toArray = true)
    (h : wpQuiet P l.toArray (fun w' => ∃ x : More, w' = xt w x.o x.d) (fun a' => ∀ w', (∃ x : More, w' = xt w x.o x.d) → Q .normal a' w') l a) : (Code.region id l.toArray true).wp P Q a w :=
  wp_region_quiet (C := fun w' => ∃ x : More, w' = xt w x.o x.d) hm hB ⟨⟨#[], w.drawn + 1⟩, by simp [xt]⟩ h
theorem wp_region_growsx {P : Program} {id : Nat} {Q : Exit → Act → World → Prop} {a : Act} {w : World} {O : Array Obj} {d : Nat} {l : List Oper} (hm : P.follows .mixedOrders = true) (hB : Region.lexB .any l.toArray = true)
    (h : wpQuiet P l.toArray (fun w' => ∃ x : More, w' = xt w x.o x.d) (fun a' => ∀ w', (∃ x : More, w' = xt w x.o x.d) → Q .normal a' w') l a) : (Code.region id l.toArray true).wp P Q a (xt w O d) :=
  wp_region_quiet (C := fun w' => ∃ x : More, w' = xt w x.o x.d) hm hB ⟨⟨O, d + 1⟩, rfl⟩ h
def Gr (w w' : World) : Prop := ∃ O d, w' = xt w O d
theorem Gr.below {w w' : World} (h : Gr w w') : Below w.heap.size w w' := below_of_xt h
theorem Gr.of_below {w w' : World} (h : Below w.heap.size w w') : Gr w w' := xt_of_below h
theorem Gr.refl (w : World) : Gr w w := grows_refl w
theorem Gr.trans {w w' w'' : World} (h : Gr w w') (k : Gr w' w'') : Gr w w'' := grows_trans h k
theorem Gr.xt {w w' : World} (O : Array Obj) (d : Nat) (h : Gr w w') : Gr w (xt w' O d) := grows_trans h ⟨O, d, rfl⟩
theorem Gr.drew {w w' : World} (h : Gr w w') : Gr w w'.drew := .of_below h.below.drew
theorem Gr.drewN {w w' : World} (n : Nat) (h : Gr w w') : Gr w (w'.drewN n) := by
  obtain ⟨O, d, rfl⟩ := h; exact ⟨O, d + n, rfl⟩
theorem Gr.size {w w' : World} (h : Gr w w') : w.heap.size ≤ w'.heap.size := h.below.size
theorem Gr.alloc {w w' : World} (o : Obj) (h : Gr w w') : Gr w (w'.alloc o) := .of_below (h.below.alloc h.size o)
theorem Gr.setCell {w w' : World} {a : Addr} (hb : w.heap.size ≤ a.block) (v : Value) (h : Gr w w') : Gr w (w'.setCell a v) := .of_below (h.below.setCell hb v)
theorem ret_bool {a b : Bool} (h : a = b) : Ending.returned (.bool a) = .returned (.bool b) := by rw [h]
theorem ret_int {k : IntKind} {a b : Int} (h : a = b) : Ending.returned (.int k a) = .returned (.int k b) := by rw [h]
def Grows (w : World) (v : Value) (e : Ending) (w' : World) : Prop := e = .returned v ∧ Gr w w'
theorem calls_grows {P : Program} {f : FuncId} {args : Array Value} {w : World} {O : Array Obj} {d : Nat} {v : Value}
    (h : Calls P f args (xt w O d) (Grows (xt w O d) v)) : Calls P f args (xt w O d) fun e w'' => e = .returned v ∧ ∃ x : More, w'' = xt w x.o x.d :=
  h.mono fun _ _ ⟨he, O', d', hw⟩ => ⟨he, ⟨O ++ O', d'⟩, by rw [hw, xt_xt]⟩
theorem calls_same {P : Program} {f : FuncId} {args : Array Value} {w : World} {O : Array Obj} {d : Nat} {v : Value}
    (h : Calls P f args (xt w O d) fun e w' => e = .returned v ∧ xt w O d = w') : Calls P f args (xt w O d) fun e w'' => e = .returned v ∧ ∃ x : More, w'' = xt w x.o x.d :=
  h.mono fun _ _ ⟨he, hw⟩ => ⟨he, ⟨O, d⟩, hw.symm⟩
end Go.Proofs.Ytoenkcojfogmmaa
/-! A region that draws its order: operations that are quiet in a class of worlds stand ahead of a tail whose order is forced and which waits for all of them. One walk, in the order of the text, serves every order. No conditions. -/
set_option linter.unusedVariables false
set_option linter.unusedSimpArgs false
namespace Go.Proofs.Ytoenkcojfogmmaa
open Go.RowKit
section
variable {P : Program} {ops : Array Oper} {md : Region.Mode} {C : World → Prop} {n : Nat} {L : Array Bool → Act → Prop}
def heads (P : Program) (md : Region.Mode) (ops : Array Oper) (C : World → Prop) (n : Nat) (L : Array Bool → Act → Prop) : Nat → Array Bool → Act → Prop
  | 0, done, a => L done a
  | f + 1, done, a => (∃ i, i ∈ Region.ready md ops done) ∧ ∀ i, i ∈ Region.ready md ops done → i < n ∧ qOp P ops C i (heads P md ops C n L f (done.setIfInBounds i true)) a
theorem any_of_heads {g : Nat} {Q' : Exit → Act → World → Prop} (hL : ∀ done a w, C w → L done a → wpAny P md ops Q' g done a w) (f : Nat) :
    ∀ (done : Array Bool) (a : Act) (w : World), C w → heads P md ops C n L f done a → wpAny P md ops Q' (f + g) done a w := by
  induction f with
  | zero => intro done a w hw h; rw [Nat.zero_add]; exact hL _ _ _ hw h
  | succ f ih =>
    intro done a w hw h
    obtain ⟨⟨i0, hi0⟩, hall⟩ := h
    have e : f + 1 + g = (f + g) + 1 := by omega
    rw [e]
    refine ⟨fun h0 => (by rw [h0] at hi0; cases hi0), fun i hi => ?_⟩
    exact wpOp_of_qOp hw (fun a' w' hw' h' => ih _ a' w' hw' h') (hall i hi).2
theorem heads_first {i : Nat} {oi : Oper} {v : Value} (hi : ops[i]? = some oi) (hsel : ∀ (j : Nat) (o : Oper) cs b, ops[j]? = some o → o.op ≠ .select cs b)
    (hs : Region.sinkB md ops n = true) (hc : Region.chainB md ops n = true) (hn : n < ops.size) (hin : i < n) (hend : ∀ done a, L done a → ∀ j ∈ Region.ready md ops done, n ≤ j) (f : Nat) :
    ∀ (done : Array Bool) (a : Act), HeadInv md ops n done →
      (∀ j oj, ops[j]? = some oj → j ≠ i → done.getD j true = false → (∀ e ∈ oj.after, Region.binds md e = true → e.on ≠ i) → oi.apart ops oj = true) →
      i ∈ Region.ready md ops done → YieldsIn P ops C oi v a →
      heads P md ops C n L f (done.setIfInBounds i true) (a.put oi.dst v) → heads P md ops C n L (f + 1) done a := by
  induction f with
  | zero =>
    intro done a inv _ hr hy H
    refine ⟨⟨i, hr⟩, fun j hj => ?_⟩
    have hjn : j < n := Nat.lt_of_not_le fun h => tail_waits hs hc hn inv _ i rfl hin (mem_ready.1 hr).1 j h hj
    refine ⟨hjn, ?_⟩
    by_cases e : j = i
    · subst e; exact hy.qOp hi H
    · exact absurd (hend _ _ H j (ready_mono hj e)) (by omega)
  | succ f ih =>
    intro done a inv hfree hr hy H
    have hun := (mem_ready.1 hr).1
    refine ⟨⟨i, hr⟩, fun j hj => ?_⟩
    have hjn : j < n := Nat.lt_of_not_le fun h => tail_waits hs hc hn inv _ i rfl hin hun j h hj
    refine ⟨hjn, ?_⟩
    by_cases e : j = i
    · subst e; exact hy.qOp hi H
    · obtain ⟨hjun, oj, hoj, hall⟩ := mem_ready.1 hj
      have hno : ∀ x ∈ oj.after, Region.binds md x = true → x.on ≠ i := by
        intro x hx hb hxi
        have := hall x hx hb
        rw [hxi, getD_both hun] at this
        cases this
      have hap := hfree j oj hoj e hjun hno
      have step := qOp_put hoj hap (fun cs b => hsel i oi cs b hi) (fun cs b => hsel j oj cs b hoj) hy (H.2 j (ready_mono hj e)).2
      refine qOp_mono (fun a' ha' => ?_) step
      refine ih (done.setIfInBounds j true) a' (inv.set hj hjn) ?_ (ready_mono hr (Ne.symm e)) ha'.1 ?_
      · intro k ok hk hki hun' hno'
        refine hfree k ok hk hki ?_ hno'
        by_cases ejk : j = k
        · subst ejk; exact hjun
        · rw [getD_set_ne true ejk] at hun'; exact hun'
      · rw [Array.setIfInBounds_comm _ _ e]; exact ha'.2
theorem heads_lex {g : Nat} {Lq : Act → Prop} (hsel : Region.noSelect ops = true) (hs : Region.sinkB md ops n = true) (hc : Region.chainB md ops n = true) (hn : n < ops.size) :
    ∀ (l : List Oper) (k : Nat) (done : Array Bool) (a : Act), (∀ j, j < l.length → l[j]? = ops[k + j]?) → k + l.length = n → HeadInv md ops n done →
    Region.lexHead md ops g l.length k done = true → wpQuiet P ops C Lq l a → heads P md ops C n (fun d b => Region.seqB md ops g n d = true ∧ Lq b) l.length done a := by
  intro l
  induction l with
  | nil =>
    intro k done a _ hk _ hB h
    obtain rfl : k = n := by simpa using hk
    exact ⟨hB, h⟩
  | cons o l ih =>
    intro k done a hl hk inv hB h
    have h0 : ops[k]? = some o := (hl 0 (by simp)).symm
    simp only [List.length_cons, Region.lexHead, Bool.and_eq_true] at hB
    obtain ⟨⟨hr, hf⟩, hB'⟩ := hB
    simp only [List.length_cons] at hk
    have hr' : k ∈ Region.ready md ops done := by simpa using hr
    obtain ⟨v, hy, hK⟩ := yieldsIn_of_qOp (K := wpQuiet P ops C Lq l) h0 (by unfold qOp; simp only [h0]; exact h)
    refine heads_first h0 (Region.noSelect_spec hsel) hs hc hn (by omega) (fun d b hd => seqB_ready hd.1) l.length done a inv (Region.free_spec h0 hf) hr' hy ?_
    refine ih (k + 1) _ _ (fun j hj => ?_) (by omega) (inv.set hr' (by omega)) hB' hK
    have := hl (j + 1) (by simp; omega)
    rw [show k + 1 + j = k + (j + 1) by omega]
    simpa using this
theorem wp_region_class_tail {id : Nat} {Q : Exit → Act → World → Prop} {a : Act} {w : World} {l : List Oper} (n : Nat) (hm : P.follows .mixedOrders = true) (hB : Region.lexTailB .any l.toArray n = true) (hC : C w.drew)
    (h : wpQuiet P l.toArray C (fun a' => ∀ w', C w' → wpList P l.toArray Q (l.drop n) a' w') (l.take n) a) : (Code.region id l.toArray true).wp P Q a w := by
  simp only [Region.lexTailB, Bool.and_eq_true, decide_eq_true_eq] at hB
  obtain ⟨⟨⟨⟨hsel, hn⟩, hs⟩, hc⟩, hlex⟩ := hB
  have hnl : n < l.length := by simpa using hn
  have e1 : (l.take n).length = n := by simp; omega
  have e2 : (l.drop n).length = l.toArray.size - n := by simp
  have inv0 : HeadInv .any l.toArray n (Array.replicate l.toArray.size false) :=
    ⟨by simp, fun j oj _ hj => (by rw [getD_replicate_false] at hj; cases hj), fun t _ ht => getD_in (by simpa using ht) (getD_replicate_false _ _)⟩
  have H := heads_lex (P := P) (C := C) (md := .any) (g := l.toArray.size - n) hsel hs hc hn (l.take n) 0 _ a
    (fun j hj => by rw [e1] at hj; simp [hj]) (by omega) inv0 (by rw [e1]; exact hlex) h
  rw [e1] at H
  refine wp_region_any hm ?_
  have := any_of_heads (Q' := Q) (g := l.toArray.size - n) (fun d b w' hw' hL => by
    have := wpAny_of_seq (md := .any) (Q' := Q) (l.drop n) n d b w' (fun j => by simp [List.getElem?_drop]) (by rw [e2]; exact hL.1) (hL.2 w' hw')
    rwa [e2] at this) n _ a w.drew hC H
  rw [show n + (l.toArray.size - n) = l.toArray.size by omega] at this
  exact this
theorem wp_region_grows_tail {id : Nat} {Q : Exit → Act → World → Prop} {a : Act} {w : World} {l : List Oper} (n : Nat) (hm : P.follows .mixedOrders = true) (hB : Region.lexTailB .any l.toArray n = true)
    (h : wpQuiet P l.toArray (fun w' => ∃ x : More, w' = xt w x.o x.d) (fun a' => ∀ w', (∃ x : More, w' = xt w x.o x.d) → wpList P l.toArray Q (l.drop n) a' w') (l.take n) a) : (Code.region id l.toArray true).wp P Q a w :=
  wp_region_class_tail n hm hB (let ⟨O, d, h⟩ := grows_drew w; ⟨⟨O, d⟩, h⟩) h
theorem wp_region_grows_tailx {id : Nat} {Q : Exit → Act → World → Prop} {a : Act} {w : World} {O : Array Obj} {d : Nat} {l : List Oper} (n : Nat) (hm : P.follows .mixedOrders = true) (hB : Region.lexTailB .any l.toArray n = true)
    (h : wpQuiet P l.toArray (fun w' => ∃ x : More, w' = xt w x.o x.d) (fun a' => ∀ w', (∃ x : More, w' = xt w x.o x.d) → wpList P l.toArray Q (l.drop n) a' w') (l.take n) a) : (Code.region id l.toArray true).wp P Q a (xt w O d) :=
  wp_region_class_tail n hm hB ⟨⟨O, d + 1⟩, rfl⟩ h
end
end Go.Proofs.Ytoenkcojfogmmaa
/-! Lists in memory: what a slice reads as, and that this stays while memory only grows. No conditions. -/
set_option linter.unusedVariables false
set_option linter.unusedSimpArgs false
namespace Go.Proofs.Ytoenkcojfogmmaa
open Go.RowKit
def Wide (x : Int) : Prop := -9223372036854775808 ≤ x ∧ x ≤ 9223372036854775807
def Fit (n : Nat) : Prop := n ≤ 140737488351232
def SlOf {α : Type} (n : Nat) (R : World → Nat → Nat → α → Prop) (w : World) (ao : Option Addr) (xs : List α) : Prop :=
  ∀ k (h : k < xs.length), ∃ b o, ao = some ⟨b, o, none⟩ ∧ R w b (o + k * n) xs[k]
def Mono {α : Type} (R : World → Nat → Nat → α → Prop) : Prop := ∀ w w' b o x, Gr w w' → R w b o x → R w' b o x
theorem SlOf.gr {α : Type} {n : Nat} {R : World → Nat → Nat → α → Prop} (hR : Mono R) {w w' : World} {ao : Option Addr} {xs : List α} (h : SlOf n R w ao xs) (hg : Gr w w') : SlOf n R w' ao xs := by
  intro k hk
  obtain ⟨b, o, h1, h2⟩ := h k hk
  exact ⟨b, o, h1, hR _ _ _ _ _ hg h2⟩
theorem SlOf.nil {α : Type} (n : Nat) (R : World → Nat → Nat → α → Prop) (w : World) (ao : Option Addr) : SlOf n R w ao [] := fun k h => by simp at h
theorem SlOf.one {α : Type} {R : World → Nat → Nat → α → Prop} {w : World} {ao : Option Addr} {xs : List α} (h : SlOf 1 R w ao xs) (k : Nat) (hk : k < xs.length) : ∃ b o, ao = some ⟨b, o, none⟩ ∧ R w b (o + k) xs[k] := by
  have := h k hk; rwa [Nat.mul_one] at this
theorem SlOf.all {α : Type} {n : Nat} {R : World → Nat → Nat → α → Prop} {w : World} {ao : Option Addr} {xs : List α} (h : SlOf n R w ao xs) (h0 : 0 < xs.length) : ∃ b o, ao = some ⟨b, o, none⟩ ∧ ∀ k (hk : k < xs.length), R w b (o + k * n) xs[k] := by
  obtain ⟨b, o, e, _⟩ := h 0 h0
  refine ⟨b, o, e, fun k hk => ?_⟩
  obtain ⟨b', o', e', h'⟩ := h k hk
  rw [e] at e'
  cases e'
  exact h'
theorem SlOf.all1 {α : Type} {R : World → Nat → Nat → α → Prop} {w : World} {ao : Option Addr} {xs : List α} (h : SlOf 1 R w ao xs) (h0 : 0 < xs.length) : ∃ b o, ao = some ⟨b, o, none⟩ ∧ ∀ k (hk : k < xs.length), R w b (o + k) xs[k] := by
  obtain ⟨b, o, e, h'⟩ := h.all h0
  exact ⟨b, o, e, fun k hk => by have := h' k hk; rwa [Nat.mul_one] at this⟩
theorem cell_gr {w w' : World} {b o : Nat} {s : Option Nat} {v : Value} (hg : Gr w w') (h : w.cell? ⟨b, o, s⟩ = some v) : w'.cell? ⟨b, o, s⟩ = some v := by
  obtain ⟨O, d, rfl⟩ := hg
  rw [cell?_xt (has_of_cell h)]; exact h
def RI (w : World) (b o : Nat) (x : Int) : Prop := w.cell? ⟨b, o, none⟩ = some (.int .i64 x) ∧ Wide x
def RB (w : World) (b o : Nat) (x : Bool) : Prop := w.cell? ⟨b, o, none⟩ = some (.bool x)
def RSl {α : Type} (n : Nat) (R : World → Nat → Nat → α → Prop) (w : World) (b o : Nat) (xs : List α) : Prop :=
  ∃ ao cap, w.cell? ⟨b, o, none⟩ = some (.slice ao xs.length cap) ∧ xs.length ≤ cap ∧ Fit xs.length ∧ SlOf n R w ao xs
theorem RI.mono : Mono RI := fun _ _ _ _ _ hg h => ⟨cell_gr hg h.1, h.2⟩
theorem RB.mono : Mono RB := fun _ _ _ _ _ hg h => cell_gr hg h
theorem RSl.mono {α : Type} {n : Nat} {R : World → Nat → Nat → α → Prop} (hR : Mono R) : Mono (RSl n R) := fun _ _ _ _ _ hg ⟨ao, cap, h1, h2, h3, h4⟩ =>
  ⟨ao, cap, cell_gr hg h1, h2, h3, h4.gr hR hg⟩
theorem SlOf.giI {w w' : World} {ao : Option Addr} {xs : List Int} (h : SlOf 1 RI w ao xs) (hg : Gr w w') : SlOf 1 RI w' ao xs := h.gr RI.mono hg
theorem SlOf.giB {w w' : World} {ao : Option Addr} {xs : List Bool} (h : SlOf 1 RB w ao xs) (hg : Gr w w') : SlOf 1 RB w' ao xs := h.gr RB.mono hg
def GivesSl {α : Type} (n : Nat) (R : World → Nat → Nat → α → Prop) (w : World) (xs : List α) (e : Ending) (w' : World) : Prop :=
  ∃ ao cap, e = .returned (.slice ao xs.length cap) ∧ xs.length ≤ cap ∧ Fit xs.length ∧ SlOf n R w' ao xs ∧ Gr w w'
/-! Rows of the call's own -/
def Row (w : World) (B T : Nat) (vs : List Value) : Prop := w.heap[B]? = some (.cells vs.toArray T (0, 0))
theorem Row.cell {w : World} {B T : Nat} {vs : List Value} (h : Row w B T vs) (k : Nat) (hk : k < vs.length) : w.cell? ⟨B, k, none⟩ = some vs[k] := by
  unfold Row at h
  simp [World.cell?, h, hk]
theorem Row.free {w : World} {B T : Nat} {vs : List Value} (h : Row w B T vs) (k : Nat) : w.frozen? ⟨B, k, none⟩ = false := by
  unfold Row at h
  simp [World.frozen?, h]
theorem Row.has {w : World} {B T : Nat} {vs : List Value} (h : Row w B T vs) : Has w B := by
  unfold Row at h
  exact (Array.getElem?_eq_some_iff.1 h).1
theorem Row.set {w : World} {B T : Nat} {vs : List Value} (h : Row w B T vs) (k : Nat) (v : Value) : Row (w.setCell ⟨B, k, none⟩ v) B T (vs.set k v) := by
  unfold Row at *
  simp [World.setCell, Array.getElem?_modify, h]
theorem Row.other {w : World} {B T : Nat} {vs : List Value} (h : Row w B T vs) (a : Addr) (v : Value) (ha : a.block ≠ B) : Row (w.setCell a v) B T vs := by
  unfold Row at *
  simp [World.setCell, Array.getElem?_modify, ha, h]
theorem Row.oth {w : World} {B T b o : Nat} {vs : List Value} {v : Value} (h : Row w B T vs) (ha : b ≠ B) : Row (w.setCell ⟨b, o, none⟩ v) B T vs := h.other _ _ ha
theorem Gr.setc {w w' : World} {b o : Nat} {v : Value} (hb : w.heap.size ≤ b) (h : Gr w w') : Gr w (w'.setCell ⟨b, o, none⟩ v) := h.setCell hb v
theorem Row.gr {w w' : World} {B T : Nat} {vs : List Value} (h : Row w B T vs) (hg : Gr w w') : Row w' B T vs := by
  have hb := h.has
  unfold Row at *
  obtain ⟨O, d, rfl⟩ := hg
  rw [block_xt w O d B hb]; exact h
theorem Row.alloc {w : World} {B T : Nat} {vs : List Value} (o : Obj) (h : Row w B T vs) : Row (w.alloc o) B T vs := h.gr ((Gr.refl w).alloc o)
theorem Row.xt {w : World} {B T : Nat} {vs : List Value} (O : Array Obj) (d : Nat) (h : Row w B T vs) : Row (xt w O d) B T vs := h.gr ((Gr.refl w).xt O d)
theorem Row.drew {w : World} {B T : Nat} {vs : List Value} (h : Row w B T vs) : Row w.drew B T vs := h.gr (Gr.refl w).drew
theorem Row.new (w : World) (arr : Array Value) (T : Nat) : Row (w.alloc (.cells arr T)) w.heap.size T arr.toList := by
  unfold Row
  rw [Go.Deep.blk_alloc_new w _]
end Go.Proofs.Ytoenkcojfogmmaa
/-! The tape that the statements read their numbers from: what its functions return, as far as the statements need it (a number in the range that is asked for), and that they move the tape's place and nothing else. -/
set_option linter.unusedVariables false
set_option linter.unusedSimpArgs false
namespace Go.Proofs.Ytoenkcojfogmmaa
open Go.RowKit
theorem setCell_id {w : World} {a : Addr} {v : Value} (h : w.cell? a = some v) : w.setCell a v = w := by
  unfold World.setCell
  unfold World.cell? at h
  cases w with
  | mk heap tape drawn os output =>
  simp only [World.mk.injEq, and_true] at *
  apply Array.ext_getElem?
  intro i
  rw [Array.getElem?_modify]
  split
  · rename_i e
    subst e
    cases hb : heap[a.block]? with
    | none => simp
    | some o =>
      simp only [hb] at h
      cases o with
      | cells c t f =>
        simp only at h
        split at h
        · cases h
        · rename_i hs
          simp only [Option.map_some, Option.some.injEq, hs]
          congr 1
          apply Array.ext_getElem?
          intro j
          simp only [Bool.false_eq_true, if_false]
          rw [Array.getElem?_setIfInBounds]
          split
          · rename_i e; subst e; split
            · exact h.symm
            · rename_i hn; rw [Array.getElem?_eq_none (by omega)] at h; cases h
          · rfl
      | _ => cases h
  · rfl
@[simp, go_sem] theorem setCell_setCell (w : World) (a : Addr) (u v : Value) : (w.setCell a u).setCell a v = w.setCell a v := by
  unfold World.setCell
  congr 1
  apply Array.ext_getElem?
  intro i
  simp only [Array.getElem?_modify]
  split
  · cases w.heap[i]? with
    | none => rfl
    | some o =>
      cases o with
      | cells c t f =>
        simp only [Option.map_some, Option.some.injEq]
        congr 1
        split
        · rfl
        · apply Array.ext_getElem?
          intro j
          simp only [Array.getElem?_setIfInBounds, Array.size_setIfInBounds]
          split <;> rfl
      | _ => rfl
  · rfl
def IntsIn (w : World) (b : Nat) (ao : Option Addr) (len : Nat) : Prop :=
  ∀ k, k < len → ∃ eb eo x, ao = some ⟨eb, eo, none⟩ ∧ eb ≠ b ∧ w.cell? ⟨eb, eo + k, none⟩ = some (.int .i64 x) ∧ -9223372036854775808 ≤ x ∧ x ≤ 9223372036854775807
def Tape (w : World) (b : Nat) (p : Int) (len : Nat) : Prop :=
  ∃ ao cap, w.cell? ⟨b, 0, none⟩ = some (.slice ao len cap) ∧ w.cell? ⟨b, 1, none⟩ = some (.int .i64 p) ∧ w.frozen? ⟨b, 1, none⟩ = false ∧ 0 ≤ p ∧ p ≤ len ∧ len ≤ 500 ∧ IntsIn w b ao len
theorem Tape.has {w : World} {b : Nat} {p : Int} {len : Nat} (h : Tape w b p len) : Has w b := by
  obtain ⟨ao, cap, h1, _⟩ := h; exact has_of_cell h1
theorem IntsIn.gr {w w' : World} {b : Nat} {ao : Option Addr} {len : Nat} (h : IntsIn w b ao len) (hg : Gr w w') : IntsIn w' b ao len := by
  intro k hk
  obtain ⟨eb, eo, x, h1, h2, h3, h4⟩ := h k hk
  obtain ⟨O, d, rfl⟩ := hg
  exact ⟨eb, eo, x, h1, h2, by rw [cell?_xt (has_of_cell h3)]; exact h3, h4⟩
theorem Tape.gr {w w' : World} {b : Nat} {p : Int} {len : Nat} (h : Tape w b p len) (hg : Gr w w') : Tape w' b p len := by
  have hb := h.has
  obtain ⟨ao, cap, h1, h2, h3, h4, h5, h6, h7⟩ := h
  have h7' := h7.gr hg
  obtain ⟨O, d, rfl⟩ := hg
  exact ⟨ao, cap, by rw [cell?_xt hb]; exact h1, by rw [cell?_xt hb]; exact h2, by rw [frozen?_xt hb]; exact h3, h4, h5, h6, h7'⟩
theorem Tape.set {w : World} {b : Nat} {p : Int} {len : Nat} (h : Tape w b p len) {p' : Int} (h0 : 0 ≤ p') (h1 : p' ≤ len) : Tape (w.setCell ⟨b, 1, none⟩ (.int .i64 p')) b p' len := by
  obtain ⟨ao, cap, c0, c1, c2, c3, c4, c5, c6⟩ := h
  refine ⟨ao, cap, ?_, ?_, ?_, h0, h1, c5, ?_⟩
  · rw [World.cell?_setCell_other _ _ _ _ (by simp)]; exact c0
  · exact World.cell?_setCell_same _ _ _ c1
  · rw [World.frozen?_setCell]; exact c2
  · intro k hk
    obtain ⟨eb, eo, x, d1, d2, d3, d4⟩ := c6 k hk
    exact ⟨eb, eo, x, d1, d2, by rw [World.cell?_setCell_other _ _ _ _ (by simp)]; exact d3, d4⟩
def Reads (w : World) (b len : Nat) (S : Int → Prop) (e : Ending) (w' : World) : Prop :=
  ∃ x p', e = .returned (.int .i64 x) ∧ S x ∧ 0 ≤ p' ∧ p' ≤ (len : Int) ∧ Gr (w.setCell ⟨b, 1, none⟩ (.int .i64 p')) w'
def InTo (lo hi x : Int) : Prop := lo ≤ x ∧ x ≤ hi
theorem raw_any (w : World) (b len : Nat) (p : Int) (h : Tape w b p len) :
    Calls Try.prog 56 #[.pointer (some ⟨b, 0, none⟩)] w (Reads w b len Wide) := by
  have hb := h.has
  obtain ⟨ao, cap, c0, c1, c2, c3, c4, c5, c6⟩ := h
  by_cases hp : p < len
  · obtain ⟨k, rfl⟩ := Int.eq_ofNat_of_zero_le c3
    obtain ⟨eb, eo, x, d1, d2, d3, d4, d5⟩ := c6 k (by omega)
    subst d1
    have d6 := has_of_cell d3
    have d7 : (w.setCell ⟨b, 1, none⟩ (.int .i64 (k + 1))).cell? ⟨eb, eo + k, none⟩ = some (.int .i64 x) := by
      rw [World.cell?_setCell_other _ _ _ _ (by simp)]; exact d3
    clear c6
    go_enter Try.func56, Try.ntmps56
    go_wp2
    go_quiet (fail)
    go_wp2
    have e1 : (k : Int) + 1 - 1 = k := by omega
    go_quiet (fail)
    go_wp2
    go_ret
    refine ⟨x, (k : Int) + 1, rfl, ⟨d4, d5⟩, by omega, by omega, ?_⟩
    repeat (first | exact Gr.refl _ | refine Gr.xt _ _ ?_ | refine Gr.alloc _ ?_ | refine Gr.drewN _ ?_)
  · have hp' : (len : Int) ≤ p := by omega
    clear c6
    go_enter Try.func56, Try.ntmps56
    go_wp2
    go_quiet (fail)
    go_wp2
    go_ret
    exact ⟨0, p, rfl, by unfold Wide; omega, c3, c4, by rw [setCell_id c1]; exact (Gr.refl w).drewN _⟩
theorem tmod_fix (x n : Int) (hn : 1 ≤ n) : (x.tmod n < 0 → x.tmod n + n = x % n) ∧ (0 ≤ x.tmod n → x.tmod n = x % n) := by
  have h := @Int.tmod_eq_emod x n
  have h1 := Int.emod_nonneg x (show n ≠ 0 by omega)
  have h2 := Int.emod_lt_of_pos x (show 0 < n by omega)
  have h3 : (n.natAbs : Int) = n := by omega
  split at h <;> constructor <;> intro h4 <;> omega
theorem mod_any (x n : Int) (w : World) (hx : Wide x) (hn : 1 ≤ n) (hn1 : n ≤ 9223372036854775807) :
    Calls Try.prog 55 #[.int .i64 x, .int .i64 n] w fun e w' => e = .returned (.int .i64 (x % n)) ∧ w = w' := by
  obtain ⟨hx0, hx1⟩ := hx
  have h := tmod_fix x n hn
  have h1 := Int.emod_nonneg x (show n ≠ 0 by omega)
  have h2 := Int.emod_lt_of_pos x (show 0 < n by omega)
  have h3 := Int.tmod_lt_of_pos x (show 0 < n by omega)
  have h4 : -n ≤ x.tmod n := by
    rcases Int.lt_or_le (x.tmod n) 0 with q | q
    · have := h.1 q; omega
    · omega
  have H := Lib.hid h
  clear h
  by_cases hs : x.tmod n < 0
  · have := H.out.1 hs
    have T := Lib.hid this
    clear this
    go_enter Try.func55, Try.ntmps55
    go_wp2
    go_ret
    exact ⟨ret_int T.out, rfl⟩
  · have := H.out.2 (by omega)
    have T := Lib.hid this
    clear this
    go_enter Try.func55, Try.ntmps55
    go_wp2
    go_ret
    exact ⟨ret_int T.out, rfl⟩
theorem n_any (w : World) (b len : Nat) (p n : Int) (h : Tape w b p len) (hn : 1 ≤ n) (hn1 : n ≤ 9223372036854775807) :
    Calls Try.prog 34 #[.pointer (some ⟨b, 0, none⟩), .int .i64 n] w (Reads w b len (InTo 0 (n - 1))) := by
  have H := Lib.hid h
  clear h
  go_enter Try.func34, Try.ntmps34
  go_wp2_with fail
  refine (raw_any _ b len p H.out).mono ?_
  rintro e w' ⟨x, p', rfl, hx, q0, q1, O, d, rfl⟩
  have hx0 := hx.1
  have hx1 := hx.2
  go_wp2_with fail
  refine (mod_any x n _ hx hn hn1).mono ?_
  rintro e w' ⟨rfl, rfl⟩
  go_wp2_with fail
  go_ret
  exact ⟨x % n, p', rfl, ⟨Int.emod_nonneg x (show n ≠ 0 by omega), by have := Int.emod_lt_of_pos x (show 0 < n by omega); omega⟩, q0, q1, O, d, rfl⟩
theorem pick_any (w : World) (b len : Nat) (p : Int) (h : Tape w b p len) (eb n : Nat) (S : Int → Prop) (hn : 1 ≤ n) (hn1 : n ≤ 1000) (hne : eb ≠ b) (hel : ∀ k, k < n → ∃ x, w.cell? ⟨eb, k, none⟩ = some (.int .i64 x) ∧ S x) :
    Calls Try.prog 33 #[.pointer (some ⟨b, 0, none⟩), .slice (some ⟨eb, 0, none⟩) n n] w (Reads w b len S) := by
  have H := Lib.hid h
  have HE := Lib.hid hel
  clear h hel
  go_enter Try.func33, Try.ntmps33
  go_wp2_with fail
  refine (n_any _ b len p _ H.out (by omega) (by omega)).mono ?_
  rintro e w' ⟨y, p', rfl, hy, q0, q1, O, d, rfl⟩
  have hy0 := hy.1
  have hy1 := hy.2
  obtain ⟨k, rfl⟩ := Int.eq_ofNat_of_zero_le hy0
  obtain ⟨x, hx, hS⟩ := HE.out k (by omega)
  have hHas := has_of_cell hx
  have hx' : (w.setCell ⟨b, 1, none⟩ (.int .i64 p')).cell? ⟨eb, k, none⟩ = some (.int .i64 x) := by
    rw [World.cell?_setCell_other _ _ _ _ (by simp)]; exact hx
  have hk : (k : Int) < n := by omega
  have hS' := Lib.hid hS
  clear hS
  go_wp2_with fail
  go_ret
  exact ⟨x, p', rfl, hS'.out, q0, q1, O, d, rfl⟩
theorem grr {w w' : World} (h : Gr w w' := by repeat (first | with_reducible exact Gr.refl _ | with_reducible refine Gr.drew ?_ | with_reducible refine Gr.drewN _ ?_ | with_reducible refine Gr.xt _ _ ?_ | with_reducible refine Gr.alloc _ ?_)) : Gr w w' := h
end Go.Proofs.Ytoenkcojfogmmaa


/-! The operations of one region of a function, found by its number. -/
set_option linter.unusedVariables false
set_option linter.unusedSimpArgs false
namespace Go.Proofs.Ytoenkcojfogmmaa
open Go.RowKit
def regOps (id : Nat) : Code → Option (Array Oper)
  | .region i ops _ => bif Nat.beq i id then some ops else none
  | .seq a b => match regOps id a with | some o => some o | none => regOps id b
  | .cond _ a b => match regOps id a with | some o => some o | none => regOps id b
  | .block _ c => regOps id c
  | .loop c => regOps id c
  | .scope c => regOps id c
  | .rangeFunc _ _ a b => match regOps id a with | some o => some o | none => regOps id b
  | _ => none
def regIn (id : Nat) (f : Func) : Array Oper := ((f.body.bind (regOps id))).getD #[]
theorem wp_code_eq {P : Program} {c c' : Code} {Q : Exit → Act → World → Prop} {a : Act} {w : World} (h : c = c') (hw : c.wp P Q a w) : c'.wp P Q a w := h ▸ hw
end Go.Proofs.Ytoenkcojfogmmaa
/-! A region that draws its order, by an invariant that every ready operation keeps. -/
set_option linter.unusedVariables false
set_option linter.unusedSimpArgs false
namespace Go.Proofs.Ytoenkcojfogmmaa
open Go.RowKit
section
variable {P : Program} {ops : Array Oper} {md : Region.Mode}
def undone (done : Array Bool) : Nat := done.toList.count false
theorem undone_set {done : Array Bool} {i : Nat} (h : done.getD i true = false) : undone (done.setIfInBounds i true) + 1 = undone done := by
  have hi : i < done.size := by
    rcases Nat.lt_or_ge i done.size with q | q
    · exact q
    · simp [Array.getD, Nat.not_lt.2 q] at h
  have hd : done[i] = false := by simpa [Array.getD, hi] using h
  unfold undone
  rw [Array.toList_setIfInBounds, List.count_set (by simpa using hi)]
  have h1 : done.toList[i]'(by simpa using hi) = false := by simpa using hd
  have h2 : 0 < done.toList.count false := List.count_pos_iff.2 (by rw [← h1]; exact List.getElem_mem _)
  simp only [h1]
  rw [if_pos (by decide), if_neg (by decide)]
  omega
theorem any_of_inv {Q : Exit → Act → World → Prop} {Inv : Array Bool → Act → World → Prop} (hend : ∀ done a w, Region.ready md ops done = [] → Inv done a w → Q .normal a w)
    (step : ∀ done a w i, i ∈ Region.ready md ops done → Inv done a w → wpOp P ops Q i (fun a' w' => Inv (done.setIfInBounds i true) a' w') a w) (fuel : Nat) :
    ∀ done a w, undone done ≤ fuel → Inv done a w → wpAny P md ops Q fuel done a w := by
  induction fuel with
  | zero =>
    intro done a w hu h
    have hr : Region.ready md ops done = [] := by
      rcases hq : Region.ready md ops done with _ | ⟨i, t⟩
      · rfl
      · have hi : i ∈ Region.ready md ops done := by rw [hq]; simp
        have := undone_set (mem_ready.1 hi).1
        omega
    exact ⟨hr, hend _ _ _ hr h⟩
  | succ fuel ih =>
    intro done a w hu h
    refine ⟨fun hr => hend _ _ _ hr h, fun i hi => ?_⟩
    have hc := undone_set (mem_ready.1 hi).1
    exact wpOp_mono (fun a' w' h' => ih _ a' w' (by omega) h') (step done a w i hi h)
theorem wp_region_inv {id : Nat} {Q : Exit → Act → World → Prop} {a : Act} {w : World} (Inv : Array Bool → Act → World → Prop) (hm : P.follows .mixedOrders = true) (h0 : Inv (Array.replicate ops.size false) a w.drew)
    (step : ∀ done a w i, i ∈ Region.ready .any ops done → Inv done a w → wpOp P ops Q i (fun a' w' => Inv (done.setIfInBounds i true) a' w') a w)
    (hend : ∀ done a w, Region.ready .any ops done = [] → Inv done a w → Q .normal a w) : (Code.region id ops true).wp P Q a w :=
  wp_region_any hm (any_of_inv hend step ops.size _ _ _ (by simp [undone]) h0)
end
section
variable {P : Program}
def depIdx (o : Oper) : List Nat := (o.after.toList.filter (Region.binds .any)).map (·.on)
def Deps (done : Array Bool) (o : Oper) : Prop := ∀ j, (depIdx o).contains j = true → done.getD j false = true
theorem deps_of {done : Array Bool} {o : Oper} (h : ∀ e ∈ o.after, Region.binds .any e = true → done.getD e.on false = true) : Deps done o := by
  intro j hj
  simp only [depIdx, List.contains_iff_mem, List.mem_map, List.mem_filter, Array.mem_toList_iff] at hj
  obtain ⟨e, ⟨h1, h2⟩, rfl⟩ := hj
  exact h e h1 h2
def StepsI (P : Program) (ops : Array Oper) (Q : Exit → Act → World → Prop) (Inv : Array Bool → Act → World → Prop) : List Oper → Nat → Prop
  | [], _ => True
  | o :: l, i => (∀ done a w, done.size = ops.size → done.getD i true = false → Deps done o → Inv done a w → ∀ K : Act → World → Prop, (∀ a' w', Inv (done.setIfInBounds i true) a' w' → K a' w') → if Region.wanted o (yielded ops a.tmps) = true then Oper.wp P o a w K Q else K (a.put o.dst undef) w) ∧ StepsI P ops Q Inv l (i + 1)
theorem StepsI.at {ops : Array Oper} {Q : Exit → Act → World → Prop} {Inv : Array Bool → Act → World → Prop} : ∀ (l : List Oper) (k : Nat), StepsI P ops Q Inv l k → ∀ i o, l[i]? = some o → ∀ done a w, done.size = ops.size → done.getD (k + i) true = false → Deps done o → Inv done a w → ∀ K : Act → World → Prop, (∀ a' w', Inv (done.setIfInBounds (k + i) true) a' w' → K a' w') → if Region.wanted o (yielded ops a.tmps) = true then Oper.wp P o a w K Q else K (a.put o.dst undef) w
  | [], _, _, i, o, h => by simp at h
  | o' :: l, k, ⟨h0, hs⟩, i, o, h => by
    cases i with
    | zero => simp at h; subst h; exact h0
    | succ i =>
      have := StepsI.at l (k + 1) hs i o (by simpa using h)
      rw [show k + 1 + i = k + (i + 1) by omega] at this
      exact this
def earlier : List Oper → Nat → Bool
  | [], _ => true
  | o :: l, i => (depIdx o).all (fun j => Nat.blt j i) && earlier l (i + 1)
theorem earlier_at : ∀ (l : List Oper) (k : Nat), earlier l k = true → ∀ i o, l[i]? = some o → ∀ j ∈ depIdx o, j < k + i
  | [], _, _, i, o, h => by simp at h
  | o' :: l, k, he, i, o, h => by
    simp only [earlier, Bool.and_eq_true, List.all_eq_true] at he
    cases i with
    | zero =>
      simp at h; subst h
      intro j hj
      have := he.1 j hj
      simpa [Nat.blt_eq] using this
    | succ i =>
      intro j hj
      have := earlier_at l (k + 1) he.2 i o (by simpa using h) j hj
      omega
theorem all_done {l : List Oper} {done : Array Bool} (he : earlier l 0 = true) (hs : done.size = l.length) (hr : Region.ready .any l.toArray done = []) : ∀ i, i < l.length → done.getD i false = true := by
  intro i
  induction i using Nat.strongRecOn with
  | ind i ih =>
    intro hi
    have hi' : i < done.size := by omega
    cases hd : done[i] with
    | true => simp [Array.getD, hi', hd]
    | false =>
      exfalso
      have : i ∈ Region.ready .any l.toArray done := by
        refine mem_ready.2 ⟨by simp [Array.getD, hi', hd], l[i], by simp [hi], fun e h1 h2 => ?_⟩
        have hm : e.on ∈ depIdx l[i] := by
          simp only [depIdx, List.mem_map, List.mem_filter, Array.mem_toList_iff]
          exact ⟨e, ⟨h1, h2⟩, rfl⟩
        have := earlier_at l 0 he i l[i] (by simp [hi]) e.on hm
        exact ih e.on (by omega) (by omega)
      rw [hr] at this
      simp at this
theorem wp_region_steps {id : Nat} {l : List Oper} {Q : Exit → Act → World → Prop} {a : Act} {w : World} (Inv : Array Bool → Act → World → Prop) (hm : P.follows .mixedOrders = true) (he : earlier l 0 = true) (h0 : Inv (Array.replicate l.length false) a w.drew)
    (step : StepsI P l.toArray Q Inv l 0) (hend : ∀ done a w, (∀ i, i < l.length → done.getD i false = true) → Inv done a w → Q .normal a w) : (Code.region id l.toArray true).wp P Q a w := by
  refine wp_region_inv (fun done a w => done.size = l.length ∧ Inv done a w) hm ⟨by simp, by simpa using h0⟩ (fun done a w i hi ⟨hs, h⟩ => ?_) (fun done a w hr ⟨hs, h⟩ => hend done a w (all_done he hs hr) h)
  obtain ⟨h1, o, h2, h3⟩ := mem_ready.1 hi
  refine wpOp_step h2 fun K hK => ?_
  have := StepsI.at l 0 step i o (by simpa using h2) done a w (by simpa using hs) (by simpa using h1) (deps_of h3) h K (fun a' w' q => hK a' w' ⟨by simpa using hs, by simpa using q⟩)
  exact this
theorem getD_set_same {done : Array Bool} {i : Nat} (h : i < done.size) : (done.setIfInBounds i true).getD i false = true := by simp [Array.getD, h]
theorem done_old {done : Array Bool} {i j : Nat} (hj : (done.setIfInBounds i true).getD j false = true) (h : i ≠ j) : done.getD j false = true := by
  rw [getD_set_ne false h] at hj; exact hj
theorem kp {done : Array Bool} {i j : Nat} {P : Prop} (f : done.getD j false = true → P) (h : i ≠ j := by decide) : (done.setIfInBounds i true).getD j false = true → P := fun q => f (done_old q h)
end
end Go.Proofs.Ytoenkcojfogmmaa
/-! A tape is made of the numbers that came in. -/
set_option linter.unusedVariables false
set_option linter.unusedSimpArgs false
namespace Go.Proofs.Ytoenkcojfogmmaa
open Go.RowKit
def RowIn (w : World) (a : Option Addr) (len cap : Nat) (zs : List Int) : Prop :=
  (a = none ∧ len = 0 ∧ cap = 0 ∧ zs = []) ∨
  ∃ x, a = some x ∧ len ≤ cap ∧ cap ≤ maxLen ∧ zs.length = cap ∧ (∀ i, i < zs.length → w.cell? (x.add i) = some (.int .i64 (zs.getD i 0))) ∧ ∀ n ∈ zs, (Lit.int .i64 n).wf = true
theorem addr_of_cell {w : World} {x : Addr} {v : Value} (h : w.cell? x = some v) : x = ⟨x.block, x.off, none⟩ := by
  cases x with
  | mk b o s =>
    cases s with
    | none => rfl
    | some k => simp only [World.cell?] at h; split at h <;> simp at h
theorem RowIn.ints {w : World} {a : Option Addr} {len cap : Nat} {zs : List Int} (h : RowIn w a len cap zs) (b : Nat) (hb : w.heap.size ≤ b) (n : Nat) (hn : n ≤ len) : IntsIn w b a n := by
  intro k hk
  rcases h with ⟨_, h2, _⟩ | ⟨x, rfl, h1, h2, h3, h4, h5⟩
  · omega
  · have c0 := h4 0 (by omega)
    have ck := h4 k (by omega)
    simp only [Addr.add, if_true] at c0
    have hx := addr_of_cell c0
    refine ⟨x.block, x.off, zs.getD k 0, by rw [← hx], ?_, ?_, ?_⟩
    · rw [hx] at c0; have : x.block < w.heap.size := has_of_cell c0; omega
    · simp only [Addr.add] at ck
      split at ck
      · rename_i e; subst e; rw [hx] at ck; simpa using ck
      · exact ck
    · have hmem : zs.getD k 0 ∈ zs := by
        rw [List.getD_eq_getElem?_getD, List.getElem?_eq_getElem (by omega)]; simp
      have := h5 _ hmem
      have := bounds_i64 this
      omega
def NewTape (w : World) (len : Nat) (e : Ending) (w' : World) : Prop :=
  ∃ b n, e = .returned (.pointer (some ⟨b, 0, none⟩)) ∧ Tape w' b 0 n ∧ Gr w w' ∧ w.heap.size ≤ b ∧ n ≤ len
theorem newTape_any (w : World) (a : Option Addr) (len cap : Nat) (zs : List Int) (h : RowIn w a len cap zs) :
    Calls Try.prog 8 #[.slice a len cap] w (NewTape w len) := by
  have hi := h.ints
  have H := Lib.hid h
  rcases h with ⟨rfl, rfl, rfl, rfl⟩ | ⟨x, rfl, h1, h2, h3, _, _⟩
  · clear hi
    go_enter Try.func8, Try.ntmps8
    go_wp2
    go_ret
    refine ⟨w.heap.size, 0, rfl, ⟨none, 0, by simp [go_sem], by simp [go_sem], by simp [go_sem], by omega, by omega, by omega, fun k hk => by omega⟩, (Gr.refl w).alloc _, Nat.le_refl _, by omega⟩
  · unfold maxLen at h2
    have HI := Lib.hid hi
    clear hi h3
    by_cases hl : len ≤ 500
    · go_enter Try.func8, Try.ntmps8
      go_wp2
      go_ret
      refine ⟨w.heap.size, len, rfl, ⟨some x, cap, by simp [go_sem], by simp [go_sem], by simp [go_sem], by omega, by omega, by omega, ?_⟩, (Gr.refl w).alloc _, Nat.le_refl _, by omega⟩
      exact (HI.out w.heap.size (Nat.le_refl _) len (Nat.le_refl _)).gr ((Gr.refl w).alloc _)
    · go_enter Try.func8, Try.ntmps8
      go_wp2
      go_ret
      refine ⟨w.heap.size, 500, rfl, ⟨some x, cap, by simp [go_sem], by simp [go_sem], by simp [go_sem], by omega, by omega, by omega, ?_⟩, (Gr.refl w).alloc _, Nat.le_refl _, by omega⟩
      exact (HI.out w.heap.size (Nat.le_refl _) 500 (by omega)).gr ((Gr.refl w).alloc _)
end Go.Proofs.Ytoenkcojfogmmaa
/-! Worlds in which a tape has moved on and memory has grown (for the laws on rates). -/
set_option linter.unusedVariables false
set_option linter.unusedSimpArgs false
namespace Go.Proofs.Ytoenkcojfogmmaa
open Go.RowKit
open Classical
def Tp (w : World) (b len : Nat) : Prop := ∃ p, Tape w b p len
def Mv (b len : Nat) (w w' : World) : Prop := ∃ p : Int, 0 ≤ p ∧ p ≤ (len : Int) ∧ Gr (w.setCell ⟨b, 1, none⟩ (.int .i64 p)) w'
theorem size_set (w : World) (a : Addr) (v : Value) : (w.setCell a v).heap.size = w.heap.size := by simp [World.setCell]
theorem Tp.has {w : World} {b len : Nat} (h : Tp w b len) : b < w.heap.size := h.elim fun _ h => h.has
theorem Mv.tp {w w' : World} {b len : Nat} (h : Mv b len w w') (ht : Tp w b len) : Tp w' b len := by
  obtain ⟨p, h0, h1, hg⟩ := h
  obtain ⟨q, ht⟩ := ht
  exact ⟨p, (ht.set h0 h1).gr hg⟩
theorem Tp.gr {w w' : World} {b len : Nat} (h : Tp w b len) (hg : Gr w w') : Tp w' b len := h.elim fun p h => ⟨p, h.gr hg⟩
theorem Mv.of_gr {w w' : World} {b len : Nat} (ht : Tp w b len) (hg : Gr w w') : Mv b len w w' := by
  obtain ⟨p, ht⟩ := ht
  obtain ⟨ao, cap, c0, c1, c2, c3, c4, c5, c6⟩ := ht
  exact ⟨p, c3, c4, by rw [setCell_id c1]; exact hg⟩
theorem Mv.refl {w : World} {b len : Nat} (ht : Tp w b len) : Mv b len w w := .of_gr ht (Gr.refl w)
theorem gr_setCell {w w' : World} {b : Nat} (hg : Gr w w') (hb : b < w.heap.size) (v : Value) : Gr (w.setCell ⟨b, 1, none⟩ v) (w'.setCell ⟨b, 1, none⟩ v) := by
  have h := hg.below
  refine .of_below ⟨h.os, h.tape, h.output, by rw [size_set, size_set]; exact h.size, fun k hk => ?_⟩
  rw [size_set] at hk
  have := h.block k hk
  simp only [World.setCell, Array.getElem?_modify, this]
theorem Mv.trans {w w1 w2 : World} {b len : Nat} (h : Mv b len w w1) (hb : b < w.heap.size) (k : Mv b len w1 w2) : Mv b len w w2 := by
  obtain ⟨p, h0, h1, hg⟩ := h
  obtain ⟨q, k0, k1, kg⟩ := k
  refine ⟨q, k0, k1, ?_⟩
  have := gr_setCell hg (by rw [size_set]; exact hb) (.int .i64 q)
  rw [setCell_setCell] at this
  exact this.trans kg
theorem Mv.gr {w w1 w2 : World} {b len : Nat} (h : Mv b len w w1) (k : Gr w1 w2) : Mv b len w w2 := by
  obtain ⟨p, h0, h1, hg⟩ := h
  exact ⟨p, h0, h1, hg.trans k⟩
theorem Mv.alloc {w w1 : World} {b len : Nat} (o : Obj) (h : Mv b len w w1) : Mv b len w (w1.alloc o) := h.gr ((Gr.refl _).alloc o)
theorem Mv.setc {w w1 : World} {b len B o : Nat} {v : Value} (h : Mv b len w w1) (hB : w.heap.size ≤ B) : Mv b len w (w1.setCell ⟨B, o, none⟩ v) := by
  obtain ⟨p, h0, h1, hg⟩ := h
  exact ⟨p, h0, h1, hg.setCell (a := ⟨B, o, none⟩) (by rw [size_set]; exact hB) v⟩
theorem Mv.size {w w1 : World} {b len : Nat} (h : Mv b len w w1) : w.heap.size ≤ w1.heap.size := by
  obtain ⟨p, h0, h1, hg⟩ := h
  have := hg.size; rwa [size_set] at this
theorem Mv.block {w w1 : World} {b len k : Nat} (h : Mv b len w w1) (hk : k < w.heap.size) (hb : k ≠ b) : w1.heap[k]? = w.heap[k]? := by
  obtain ⟨p, h0, h1, hg⟩ := h
  rw [hg.below.block k (by rw [size_set]; exact hk)]
  simp [World.setCell, Array.getElem?_modify, Ne.symm hb]
theorem Mv.row {w w1 : World} {b len B T : Nat} {vs : List Value} (h : Mv b len w w1) (r : Row w B T vs) (hb : B ≠ b) : Row w1 B T vs := (h.block r.has hb).trans r
def ReadsM (b len : Nat) (w : World) (S : Int → Prop) (e : Ending) (w' : World) : Prop := ∃ x, e = .returned (.int .i64 x) ∧ S x ∧ Mv b len w w'
theorem Reads.m {b len : Nat} {w : World} {S : Int → Prop} {e : Ending} {w' : World} (h : Reads w b len S e w') : ReadsM b len w S e w' := by
  obtain ⟨x, p, e, hs, h0, h1, hg⟩ := h
  exact ⟨x, e, hs, p, h0, h1, hg⟩
theorem nM_any (w : World) (b len : Nat) (n : Int) (h : Tp w b len) (hn : 1 ≤ n) (hn1 : n ≤ 9223372036854775807) :
    Calls Try.prog 34 #[.pointer (some ⟨b, 0, none⟩), .int .i64 n] w (ReadsM b len w (InTo 0 (n - 1))) :=
  h.elim fun p h => (n_any w b len p n h hn hn1).mono fun _ _ q => q.m
theorem rangeM_any (w : World) (b len : Nat) (lo hi : Int) (h : Tp w b len) (hl : -1000 ≤ lo) (hh : lo ≤ hi) (hh1 : hi ≤ 1000000) :
    Calls Try.prog 32 #[.pointer (some ⟨b, 0, none⟩), .int .i64 lo, .int .i64 hi] w (ReadsM b len w (InTo lo hi)) := by
  have H := Lib.hid h
  clear h
  go_enter Try.func32, Try.ntmps32
  go_wp2_with fail
  refine (nM_any _ b len _ H.out (by omega) (by omega)).mono ?_
  rintro e w' ⟨x, rfl, hx, hm⟩
  have hx0 := hx.1
  have hx1 := hx.2
  have M := Lib.hid hm
  clear hm hx
  go_wp2_with fail
  go_ret
  exact ⟨lo + x, rfl, ⟨by omega, by omega⟩, M.out⟩
end Go.Proofs.Ytoenkcojfogmmaa
/-! Rows of cells of the call's own, with spare room, beside a tape that moves; what is appended and where it lies. Out of XRow, XMk, XMkA, XRox (wip/tools/own.py). -/
set_option linter.unusedVariables false
set_option linter.unusedSimpArgs false
namespace Go.Proofs.Ytoenkcojfogmmaa
open Go.RowKit
def bools (vs : List Bool) : List Value := vs.map Value.bool
def nums (vs : List Int) : List Value := vs.map (Value.int .i64)
theorem bools_len (vs : List Bool) : (bools vs).length = vs.length := by simp [bools]
theorem nums_len (vs : List Int) : (nums vs).length = vs.length := by simp [nums]
theorem bools_set (vs : List Bool) (k : Nat) (b : Bool) : (bools vs).set k (.bool b) = bools (vs.set k b) := by simp [bools, List.map_set]
theorem nums_set (vs : List Int) (k : Nat) (b : Int) : (nums vs).set k (.int .i64 b) = nums (vs.set k b) := by simp [nums, List.map_set]
theorem Row.bat {w : World} {B T : Nat} {vs : List Bool} (h : Row w B T (bools vs)) (k : Nat) (hk : k < vs.length) : w.cell? ⟨B, k, none⟩ = some (.bool vs[k]) := by
  rw [h.cell k (by simpa [bools] using hk)]; simp [bools]
theorem Row.iat {w : World} {B T : Nat} {vs : List Int} (h : Row w B T (nums vs)) (k : Nat) (hk : k < vs.length) : w.cell? ⟨B, k, none⟩ = some (.int .i64 vs[k]) := by
  rw [h.cell k (by simpa [nums] using hk)]; simp [nums]
theorem Row.bset {w : World} {B T : Nat} {vs : List Bool} (h : Row w B T (bools vs)) (k : Nat) (b : Bool) : Row (w.setCell ⟨B, k, none⟩ (.bool b)) B T (bools (vs.set k b)) := by
  rw [← bools_set]; exact h.set k _
theorem Row.iset {w : World} {B T : Nat} {vs : List Int} (h : Row w B T (nums vs)) (k : Nat) (b : Int) : Row (w.setCell ⟨B, k, none⟩ (.int .i64 b)) B T (nums (vs.set k b)) := by
  rw [← nums_set]; exact h.set k _
def RowS (w : World) (B T : Nat) (vs : List Value) : Prop := ∃ rest, Row w B T (vs ++ rest)
theorem Row.s {w : World} {B T : Nat} {vs : List Value} (h : Row w B T vs) : RowS w B T vs := ⟨[], by simpa using h⟩
theorem RowS.cell {w : World} {B T : Nat} {vs : List Value} (h : RowS w B T vs) (k : Nat) (hk : k < vs.length) : w.cell? ⟨B, k, none⟩ = some vs[k] := by
  obtain ⟨rest, h⟩ := h
  rw [h.cell k (by simp; omega), List.getElem_append_left hk]
theorem RowS.free {w : World} {B T : Nat} {vs : List Value} (h : RowS w B T vs) (k : Nat) : w.frozen? ⟨B, k, none⟩ = false := h.elim fun _ h => h.free k
theorem RowS.has {w : World} {B T : Nat} {vs : List Value} (h : RowS w B T vs) : Has w B := h.elim fun _ h => h.has
theorem RowS.set {w : World} {B T : Nat} {vs : List Value} (h : RowS w B T vs) (k : Nat) (hk : k < vs.length) (v : Value) : RowS (w.setCell ⟨B, k, none⟩ v) B T (vs.set k v) := by
  obtain ⟨rest, h⟩ := h
  refine ⟨rest, ?_⟩
  have := h.set k v
  rwa [List.set_append_left _ _ hk] at this
theorem RowS.oth {w : World} {B T b o : Nat} {vs : List Value} {v : Value} (h : RowS w B T vs) (ha : b ≠ B) : RowS (w.setCell ⟨b, o, none⟩ v) B T vs := h.elim fun r h => ⟨r, h.oth ha⟩
theorem RowS.gr {w w' : World} {B T : Nat} {vs : List Value} (h : RowS w B T vs) (hg : Gr w w') : RowS w' B T vs := h.elim fun r h => ⟨r, h.gr hg⟩
theorem RowS.alloc {w : World} {B T : Nat} {vs : List Value} (o : Obj) (h : RowS w B T vs) : RowS (w.alloc o) B T vs := h.gr ((Gr.refl w).alloc o)
theorem RowS.drew {w : World} {B T : Nat} {vs : List Value} (h : RowS w B T vs) : RowS w.drew B T vs := h.gr (Gr.refl w).drew
theorem RowS.bat {w : World} {B T : Nat} {vs : List Bool} (h : RowS w B T (bools vs)) (k : Nat) (hk : k < vs.length) : w.cell? ⟨B, k, none⟩ = some (.bool vs[k]) := by
  rw [h.cell k (by simpa [bools] using hk)]; simp [bools]
theorem RowS.iat {w : World} {B T : Nat} {vs : List Int} (h : RowS w B T (nums vs)) (k : Nat) (hk : k < vs.length) : w.cell? ⟨B, k, none⟩ = some (.int .i64 vs[k]) := by
  rw [h.cell k (by simpa [nums] using hk)]; simp [nums]
theorem RowS.bset {w : World} {B T : Nat} {vs : List Bool} (h : RowS w B T (bools vs)) (k : Nat) (hk : k < vs.length) (b : Bool) : RowS (w.setCell ⟨B, k, none⟩ (.bool b)) B T (bools (vs.set k b)) := by
  rw [← bools_set]; exact h.set k (by simpa [bools] using hk) _
theorem RowS.iset {w : World} {B T : Nat} {vs : List Int} (h : RowS w B T (nums vs)) (k : Nat) (hk : k < vs.length) (b : Int) : RowS (w.setCell ⟨B, k, none⟩ (.int .i64 b)) B T (nums (vs.set k b)) := by
  rw [← nums_set]; exact h.set k (by simpa [nums] using hk) _
theorem RowS.slB {w : World} {B T : Nat} {vs : List Bool} (h : RowS w B T (bools vs)) : SlOf 1 RB w (some ⟨B, 0, none⟩) vs := fun k hk => ⟨B, 0, rfl, by rw [Nat.mul_one, Nat.zero_add]; exact h.bat k hk⟩
theorem RowS.slI {w : World} {B T : Nat} {vs : List Int} (h : RowS w B T (nums vs)) (hw : ∀ k (hk : k < vs.length), Wide vs[k]) : SlOf 1 RI w (some ⟨B, 0, none⟩) vs := fun k hk => ⟨B, 0, rfl, by rw [Nat.mul_one, Nat.zero_add]; exact ⟨h.iat k hk, hw k hk⟩⟩
theorem RowS.apart {w : World} {B C T U : Nat} {vs us : List Value} (h : RowS w B T vs) (k : RowS w C U us) (hT : T ≠ U) : B ≠ C := by
  rintro rfl
  obtain ⟨r, h⟩ := h
  obtain ⟨s, k⟩ := k
  unfold Row at h k
  rw [h] at k
  injection k with k
  injection k with _ k
  exact hT k
theorem bools_one (vs : List Bool) : ∀ u ∈ bools vs, u.oneCell' = true := by
  intro u hu
  obtain ⟨x, _, rfl⟩ := List.mem_map.1 hu
  rfl
theorem nums_one (vs : List Int) : ∀ u ∈ nums vs, u.oneCell' = true := by
  intro u hu
  obtain ⟨x, _, rfl⟩ := List.mem_map.1 hu
  rfl
def Own1 (base : Nat) (w : World) (T : Nat) (vs : List Value) (a : Option Addr) : Prop := vs = [] ∨ ∃ B, a = some ⟨B, 0, none⟩ ∧ base ≤ B ∧ RowS w B T vs
theorem Own1.gr {base : Nat} {w w' : World} {T : Nat} {vs : List Value} {a : Option Addr} (h : Own1 base w T vs a) (hg : Gr w w') : Own1 base w' T vs a := by
  rcases h with h | ⟨B, e, hb, h⟩
  · exact .inl h
  · exact .inr ⟨B, e, hb, h.gr hg⟩
theorem Own1.low {base base' : Nat} {w : World} {T : Nat} {vs : List Value} {a : Option Addr} (h : Own1 base w T vs a) (hb : base' ≤ base) : Own1 base' w T vs a := by
  rcases h with h | ⟨B, e, hB, h⟩
  · exact .inl h
  · exact .inr ⟨B, e, by omega, h⟩
theorem Own1.slB {base : Nat} {w : World} {T : Nat} {vs : List Bool} {a : Option Addr} (h : Own1 base w T (bools vs) a) : SlOf 1 RB w a vs := by
  rcases h with h | ⟨B, rfl, hb, h⟩
  · have : vs = [] := by simpa [bools] using h
    subst this; exact SlOf.nil _ _ _ _
  · exact h.slB
theorem Own1.slI {base : Nat} {w : World} {T : Nat} {vs : List Int} {a : Option Addr} (h : Own1 base w T (nums vs) a) (hw : ∀ k (hk : k < vs.length), Wide vs[k]) : SlOf 1 RI w a vs := by
  rcases h with h | ⟨B, rfl, hb, h⟩
  · have : vs = [] := by simpa [nums] using h
    subst this; exact SlOf.nil _ _ _ _
  · exact h.slI hw
theorem Gr.grown {w W w' : World} {row : Option Nat} (h : Gr w W) (hg : W.grownBy w' row) (hrow : ∀ k, row = some k → w.heap.size ≤ k) : Gr w w' := by
  have hb := h.below
  refine .of_below ⟨hg.os.trans hb.os, hg.tape.trans hb.tape, hg.output.trans hb.output, Nat.le_trans hb.size hg.size, fun k hk => ?_⟩
  rw [hg.block k (Nat.lt_of_lt_of_le hk hb.size) (fun e => by have := hrow k e.symm; omega)]
  exact hb.block k hk
theorem owns_own1 {w : World} {base e n : Nat} {v : Value} {xs : List Value} (h : w.ownsRow base e 1 v n xs) : ∃ a c, v = .slice a n c ∧ n ≤ c ∧ Own1 base w e xs a := by
  obtain ⟨h0, ⟨rfl, rfl⟩ | ⟨g, cap, cur, rfl, hb, hg, hn, _, hs, ht⟩⟩ := h
  · exact ⟨none, 0, rfl, Nat.le_refl _, .inl (List.eq_nil_of_length_eq_zero (by simpa using h0))⟩
  · refine ⟨_, cap, rfl, hn, .inr ⟨g, rfl, hb, cur.toList.drop (n * 1), ?_⟩⟩
    rw [← ht, List.take_append_drop]
    exact hg
theorem slB_cells {w : World} {b o : Nat} {s : Option Nat} {vs : List Bool} (h : SlOf 1 RB w (some ⟨b, o, s⟩) vs) : ∀ j u, (bools vs)[j]? = some u → w.cell? ((⟨b, o, s⟩ : Addr).add j) = some u := by
  intro j u hu
  obtain ⟨hj, hu⟩ := List.getElem?_eq_some_iff.1 hu
  have hj' : j < vs.length := by simpa [bools] using hj
  obtain ⟨b', o', e, q⟩ := h.one j hj'
  cases e
  have : (⟨b, o, none⟩ : Addr).add j = ⟨b, o + j, none⟩ := by unfold Addr.add; split <;> simp_all
  rw [this, q, ← hu]; simp [bools]
theorem slI_cells {w : World} {b o : Nat} {s : Option Nat} {vs : List Int} (h : SlOf 1 RI w (some ⟨b, o, s⟩) vs) : ∀ j u, (nums vs)[j]? = some u → w.cell? ((⟨b, o, s⟩ : Addr).add j) = some u := by
  intro j u hu
  obtain ⟨hj, hu⟩ := List.getElem?_eq_some_iff.1 hu
  have hj' : j < vs.length := by simpa [nums] using hj
  obtain ⟨b', o', e, q⟩ := h.one j hj'
  cases e
  have : (⟨b, o, none⟩ : Addr).add j = ⟨b, o + j, none⟩ := by unfold Addr.add; split <;> simp_all
  rw [this, q.1, ← hu]; simp [nums]
theorem sl_none {α : Type} {n : Nat} {R : World → Nat → Nat → α → Prop} {w : World} {xs : List α} (h : SlOf n R w none xs) : xs = [] := by
  rcases Nat.eq_zero_or_pos xs.length with e | e
  · exact List.eq_nil_of_length_eq_zero e
  · obtain ⟨b, o, e, _⟩ := h 0 e; cases e
def GivesOwn (w : World) (T : Nat) (vs : List Value) (e : Ending) (w' : World) : Prop :=
  ∃ a c, e = .returned (.slice a vs.length c) ∧ vs.length ≤ c ∧ Own1 w.heap.size w' T vs a ∧ Gr w w'
theorem getD_set {α : Type} (vs : List α) (k j : Nat) (x z : α) (hk : k < vs.length) : (vs.set k x).getD j z = if j = k then x else vs.getD j z := by
  by_cases e : j = k
  · subst e; simp [List.getD_eq_getElem?_getD, hk]
  · rw [if_neg e, List.getD_eq_getElem?_getD, List.getElem?_set_ne (Ne.symm e), ← List.getD_eq_getElem?_getD]
theorem set_same {α : Type} (vs : List α) (k : Nat) (hk : k < vs.length) (x : α) (h : vs[k] = x) : vs.set k x = vs := by rw [← h]; simp
theorem Own1.oth {base b o : Nat} {w : World} {T : Nat} {vs : List Value} {a : Option Addr} {v : Value} (h : Own1 base w T vs a) (hb : b < base) : Own1 base (w.setCell ⟨b, o, none⟩ v) T vs a := by
  rcases h with h | ⟨B, e, hB, h⟩
  · exact .inl h
  · exact .inr ⟨B, e, hB, h.oth (by omega)⟩
theorem Own1.at {base : Nat} {w : World} {T : Nat} {vs : List Value} {a : Option Addr} (h : Own1 base w T vs a) (hv : 0 < vs.length) : ∃ B, a = some ⟨B, 0, none⟩ ∧ base ≤ B ∧ RowS w B T vs := by
  rcases h with h | h
  · rw [h] at hv; cases hv
  · exact h
theorem Own1.row {base B : Nat} {w : World} {T : Nat} {vs : List Value} (hB : base ≤ B) (h : RowS w B T vs) : Own1 base w T vs (some ⟨B, 0, none⟩) := .inr ⟨B, rfl, hB, h⟩
theorem grownBy_set (w : World) (B o : Nat) (v : Value) : w.grownBy (w.setCell ⟨B, o, none⟩ v) (some B) :=
  ⟨rfl, rfl, rfl, by simp [World.setCell], fun k _ hk => by simp only [World.setCell]; rw [Array.getElem?_modify, if_neg (fun e => hk (by rw [e]))]⟩
theorem RowS.grown {w w' : World} {row : Option Nat} {B T : Nat} {vs : List Value} (h : RowS w B T vs) (hg : w.grownBy w' row) (hne : some B ≠ row) : RowS w' B T vs :=
  h.elim fun r h => ⟨r, (hg.block B h.has hne).trans h⟩
theorem Row.grown {w w' : World} {row : Option Nat} {B T : Nat} {vs : List Value} (h : Row w B T vs) (hg : w.grownBy w' row) (hne : some B ≠ row) : Row w' B T vs := (hg.block B h.has hne).trans h
theorem owns_apart {w : World} {base e size n : Nat} {v : Value} {xs : List Value} (ho : w.ownsRow base e size v n xs) {B T : Nat} {vs : List Value} (h : RowS w B T vs) (hT : T ≠ e) : some B ≠ v.ownBlock := by
  intro q
  obtain ⟨_, ⟨rfl, _⟩ | ⟨g, cap, cur, rfl, _, hg, _⟩⟩ := ho
  · cases q
  · injection q with q
    obtain ⟨r, h⟩ := h
    unfold Row at h
    rw [q] at h
    simp only at h
    rw [h] at hg
    injection hg with hg
    injection hg with _ hg
    exact hT hg
theorem owns_set {w : World} {base e size n : Nat} {v : Value} {xs : List Value} (ho : w.ownsRow base e size v n xs) {B T o : Nat} {vs : List Value} {x : Value} (h : RowS w B T vs) (hT : T ≠ e) : (w.setCell ⟨B, o, none⟩ x).ownsRow base e size v n xs :=
  ho.kept (grownBy_set w B o x) (.inr (Ne.symm (owns_apart ho h hT)))
theorem flat_at {α : Type} (f : α → List Value) (n : Nat) (hf : ∀ x, (f x).length = n) (ts : List α) (k j : Nat) (hk : k < ts.length) (hj : j < n) : (ts.flatMap f)[k * n + j]? = (f ts[k])[j]? := by
  induction ts generalizing k with
  | nil => simp at hk
  | cons x ts ih =>
    rw [List.flatMap_cons]
    cases k with
    | zero => rw [List.getElem?_append_left (by rw [hf]; omega)]; simp
    | succ k =>
      rw [List.getElem?_append_right (by rw [hf, Nat.add_mul]; omega), hf, show (k + 1) * n + j - n = k * n + j by rw [Nat.add_mul]; omega, ih k (by simpa using hk)]
      simp
theorem owns_cell {w : World} {base e size n : Nat} {v : Value} {xs : List Value} (h : w.ownsRow base e size v n xs) (hn : 0 < n) : ∃ g cap, v = .slice (some ⟨g, 0, none⟩) n cap ∧ n ≤ cap ∧ base ≤ g ∧ ∀ j, j < n * size → w.cell? ⟨g, j, none⟩ = xs[j]? := by
  obtain ⟨h0, ⟨rfl, h1⟩ | ⟨g, cap, cur, rfl, hb, hg, hn', _, hs, ht⟩⟩ := h
  · omega
  · refine ⟨g, cap, rfl, hn', hb, fun j hj => ?_⟩
    rw [← ht, List.getElem?_take, if_pos hj]
    simp [World.cell?, hg]
theorem Own1.grown {base : Nat} {w w1 : World} {row : Option Nat} {T : Nat} {vs : List Value} {a : Option Addr} (h : Own1 base w T vs a) (hg : w.grownBy w1 row) (hne : ∀ B, RowS w B T vs → some B ≠ row) : Own1 base w1 T vs a := by
  rcases h with h | ⟨B, e, hB, h⟩
  · exact .inl h
  · exact .inr ⟨B, e, hB, h.grown hg (hne B h)⟩
theorem owns_slice {w : World} {base e size n : Nat} {v : Value} {xs : List Value} (h : w.ownsRow base e size v n xs) : ∃ a c, v = .slice a n c := by
  rcases h.2 with ⟨rfl, rfl⟩ | ⟨g, cap, cur, rfl, _⟩
  · exact ⟨none, 0, rfl⟩
  · exact ⟨_, cap, rfl⟩
theorem Gr.owns {w w1 : World} {base e size n : Nat} {v : Value} {xs : List Value} (r : w.ownsRow base e size v n xs) (hg : Gr w w1) : w1.ownsRow base e size v n xs := by
  refine ⟨r.1, ?_⟩
  rcases r.2 with r | ⟨g, cap, cur, e, h1, h2, h3⟩
  · exact .inl r
  · exact .inr ⟨g, cap, cur, e, h1, (hg.below.block g (Array.getElem?_eq_some_iff.1 h2).1).trans h2, h3⟩
theorem run_append_fresh {P : Program} (w : World) (t ty e : TypeId) (i : TypeInfo) (z : Value) (bytes : Nat) (ht : P.underlying t = some (.slice e)) (hi : P.info? e = some i) (hz : i.zero = some z) (hs : i.size = 1) (hb : i.bytes = bytes)
    (b ad : Addr) (m c : Nat) (news : List Value) (hl : news.length = m) (hnews : ∀ j u, news[j]? = some u → w.cell? (ad.add j) = some u) (hm : 0 < m) (h63 : m ≤ 1000000) (hbytes : bytes ≤ 8) :
    ∃ cap Z, m ≤ cap ∧ (Builtin.append_ #[t, t] ty #[.slice (some b) 0 0, .slice (some ad) m c]).run P w = .ok (.slice (some ⟨w.heap.size, 0, none⟩) m cap) (w.drew.alloc (.cells (news.toArray ++ Z) e)) := by
  subst hb
  have := run_append_grow (P := P) w t ty e i z ht hi hz b 0 0 [] (by simp) (fun j v h => by simp at h) ad m c news (by rw [hs]; omega) hnews (by omega) (by omega) (growslice_fits (by omega) (by rw [Nat.zero_add]; exact Nat.le_trans (Nat.mul_le_mul h63 hbytes) (by decide)))
  simp only [Nat.zero_add, Array.empty_append] at this
  exact ⟨_, _, by have := grownCap_ge w m 0 e; exact this, this⟩
theorem step_append_fresh {P : Program} (w : World) {ops : Array Oper} {o : Oper} {a : Act} {K : Act → World → Prop} {Q : Exit → Act → World → Prop} {E : Prop} (hgd : o.guard = none) (s x : Operand) (t : TypeId)
    (ho : o.op = .call { callee := .builtin .append, args := #[s, x], argTypes := #[t, t] }) (e : TypeId) (i : TypeInfo) (z : Value) (bytes : Nat) (ht : P.underlying t = some (.slice e)) (hi : P.info? e = some i) (hz : i.zero = some z) (hs : i.size = 1) (hb : i.bytes = bytes)
    (b ad : Addr) (m c : Nat) (news : List Value) (hv : a.eval s = .slice (some b) 0 0) (hx : a.eval x = .slice (some ad) m c) (hl : news.length = m) (hnews : ∀ j u, news[j]? = some u → w.cell? (ad.add j) = some u) (hm : 0 < m) (h63 : m ≤ 1000000) (hbytes : bytes ≤ 8) (H : Nat) (hH : w.heap.size = H)
    (h : ∀ cap Z, m ≤ cap → K (a.put o.dst (.slice (some ⟨H, 0, none⟩) m cap)) (w.drew.alloc (.cells (news.toArray ++ Z) e))) :
    if Region.wanted o (yielded ops a.tmps) = true then Oper.wp P o a w K Q else E := by
  subst hH
  have hw : Region.wanted o (yielded ops a.tmps) = true := by simp [Region.wanted, hgd]
  rw [if_pos hw]
  obtain ⟨cap, Z, hc, hr⟩ := run_append_fresh (P := P) w t o.type e i z bytes ht hi hz hs hb b ad m c news hl hnews hm h63 hbytes
  unfold Oper.wp execOp
  simp only [ho, resolve, invoke, builtin, Sem.run_bind, Sem.run_pure, Result.andThen_ok, List.map_toArray, List.map_cons, List.map_nil, hv, hx, hr]
  exact h cap Z hc
theorem row_fresh (w : World) (vs : List Value) (Z : Array Value) (T : Nat) : RowS (w.alloc (.cells (vs.toArray ++ Z) T)) w.heap.size T vs := ⟨Z.toList, by have := Row.new w (vs.toArray ++ Z) T; simpa using this⟩
theorem row_fresh' (w : World) (vs : List Value) (Z : Array Value) (T B : Nat) (hB : B = w.heap.size) : RowS (w.alloc (.cells (vs.toArray ++ Z) T)) B T vs := by subst hB; exact row_fresh w vs Z T
theorem SlOf.keepB {w : World} {ao : Option Addr} {xs : List Bool} {a : Addr} {v v' : Value} (h : SlOf 1 RB w ao xs) (c : w.cell? a = some v) (hv : ∀ x, v ≠ .bool x) : SlOf 1 RB (w.setCell a v') ao xs := fun k hk => by
  obtain ⟨b, o, rfl, q⟩ := h k hk
  refine ⟨b, o, rfl, ?_⟩
  unfold RB at q ⊢
  rw [World.cell?_setCell_other, q]
  intro e
  rw [e, q] at c
  cases c
  exact hv _ rfl
theorem SlOf.keepI {w : World} {ao : Option Addr} {xs : List Int} {a : Addr} {v v' : Value} (h : SlOf 1 RI w ao xs) (c : w.cell? a = some v) (hv : ∀ k x, v ≠ .int k x) : SlOf 1 RI (w.setCell a v') ao xs := fun k hk => by
  obtain ⟨b, o, rfl, q⟩ := h k hk
  refine ⟨b, o, rfl, ?_, q.2⟩
  rw [World.cell?_setCell_other, q.1]
  intro e
  rw [e, q.1] at c
  cases c
  exact hv _ _ rfl
section
open Classical
theorem Mv.rowS {w w1 : World} {b len B T : Nat} {vs : List Value} (h : Mv b len w w1) (r : RowS w B T vs) (hb : B ≠ b) : RowS w1 B T vs := r.elim fun x r => ⟨x, h.row r hb⟩
theorem Mv.own1 {w w1 : World} {b len base T : Nat} {vs : List Value} {a : Option Addr} (h : Mv b len w w1) (r : Own1 base w T vs a) (hb : b < base) : Own1 base w1 T vs a := by
  rcases r with r | ⟨B, e, hB, r⟩
  · exact .inl r
  · exact .inr ⟨B, e, hB, h.rowS r (by omega)⟩
theorem Mv.owns {w w1 : World} {b len base e size n : Nat} {v : Value} {xs : List Value} (h : Mv b len w w1) (r : w.ownsRow base e size v n xs) (hb : b < base) : w1.ownsRow base e size v n xs := by
  refine ⟨r.1, ?_⟩
  rcases r.2 with r | ⟨g, cap, cur, e, h1, h2, h3⟩
  · exact .inl r
  · exact .inr ⟨g, cap, cur, e, h1, (h.block (Array.getElem?_eq_some_iff.1 h2).1 (by omega)).trans h2, h3⟩
def Hold (b : Nat) (w : World) (Q : World → Prop) : Prop := ∀ p : Int, Q (w.setCell ⟨b, 1, none⟩ (.int .i64 p))
def GrMono (Q : World → Prop) : Prop := ∀ w w', Gr w w' → Q w → Q w'
theorem Hold.mv {w w1 : World} {b len : Nat} {Q : World → Prop} (h : Hold b w Q) (hb : b < w.heap.size) (m : Mv b len w w1) (hQ : GrMono Q) : Hold b w1 Q := by
  intro q
  obtain ⟨p, h0, h1, hg⟩ := m
  have := gr_setCell hg (by rw [size_set]; exact hb) (.int .i64 q)
  rw [setCell_setCell] at this
  exact hQ _ _ this (h q)
theorem Hold.now {w : World} {b len : Nat} {Q : World → Prop} (h : Hold b w Q) (ht : Tp w b len) : Q w := by
  obtain ⟨p, ht⟩ := ht
  obtain ⟨ao, cap, c0, c1, _⟩ := ht
  have := h p
  rwa [setCell_id c1] at this
theorem Hold.gr {w w1 : World} {b : Nat} {Q : World → Prop} (h : Hold b w Q) (hb : b < w.heap.size) (hg : Gr w w1) (hQ : GrMono Q) : Hold b w1 Q := fun q => hQ _ _ (gr_setCell hg hb _) (h q)
theorem pickM_any (w : World) (b len : Nat) (h : Tp w b len) (eb n : Nat) (S : Int → Prop) (hn : 1 ≤ n) (hn1 : n ≤ 1000) (hne : eb ≠ b) (hel : ∀ k, k < n → ∃ x, w.cell? ⟨eb, k, none⟩ = some (.int .i64 x) ∧ S x) :
    Calls Try.prog 33 #[.pointer (some ⟨b, 0, none⟩), .slice (some ⟨eb, 0, none⟩) n n] w (ReadsM b len w S) :=
  h.elim fun p h => (pick_any w b len p h eb n S hn hn1 hne hel).mono fun _ _ q => q.m
theorem Mv.grown {w W w1 : World} {b len : Nat} {row : Option Nat} (h : Mv b len w W) (hg : W.grownBy w1 row) (hrow : ∀ k, row = some k → w.heap.size ≤ k) : Mv b len w w1 := by
  obtain ⟨p, h0, h1, g⟩ := h
  exact ⟨p, h0, h1, g.grown hg (fun k e => by rw [size_set]; exact hrow k e)⟩
theorem pickNew_any (w : World) (b len : Nat) (h : Tp w b len) (eb : Nat) (heb : eb = w.heap.size) (arr : Array Value) (n : Nat) (xs : List Int) (S : Int → Prop) (ha : arr.toList = nums xs) (hn : xs.length = n) (hn1 : 1 ≤ n) (hn2 : n ≤ 1000) (hS : ∀ x ∈ xs, S x) :
    Calls Try.prog 33 #[.pointer (some ⟨b, 0, none⟩), .slice (some ⟨eb, 0, none⟩) n n] (w.alloc (.cells arr 3)) (ReadsM b len w S) := by
  subst heb
  refine (pickM_any (w.alloc (.cells arr 3)) b len (h.gr ((Gr.refl _).alloc _)) w.heap.size n S hn1 hn2 (by have := h.has; omega) (fun k hk => ?_)).mono ?_
  · have q := Row.new w arr 3
    rw [ha] at q
    exact ⟨_, q.iat k (by omega), hS _ (List.getElem_mem _)⟩
  · rintro e w' ⟨x, rfl, hs, hm⟩
    exact ⟨x, rfl, hs, (Mv.of_gr h ((Gr.refl _).alloc _)).trans h.has hm⟩
end
def Gets (w : World) (A : Option Addr) (m size : Nat) (news : List Value) : Prop := news.length = m * size ∧ (m ≠ 0 → ∃ ad, A = some ad ∧ ∀ j u, news[j]? = some u → w.cell? (ad.add j) = some u)
section
variable {P : Program} (w : World)
theorem grownBy_same (row : Option Nat) : w.grownBy w row := World.grownBy.refl w row
theorem run_append_gets (base : Nat) (t ty e : TypeId) (i : TypeInfo) (z : Value) (size bytes : Nat) (ht : P.underlying t = some (.slice e)) (hi : P.info? e = some i) (hz : i.zero = some z) (hs : i.size = size) (hb : i.bytes = bytes) (hzs : z.cells.size = size) (h0 : 0 < size)
    (v : Value) (n : Nat) (xs : List Value) (hown : w.ownsRow base e size v n xs) (A : Option Addr) (m c : Nat) (news : List Value) (hg : Gets w A m size news) (h1 : ∀ u ∈ news, u.oneCell' = true) (h63 : n + m ≤ maxLen) (hbytes : (n + m) * bytes ≤ 140737488355328) (hbase : base ≤ w.heap.size) :
    ∃ v' w', (Builtin.append_ #[t, t] ty #[v, .slice A m c]).run P w = .ok v' w' ∧ w'.ownsRow base e size v' (n + m) (xs ++ news) ∧ w.grownBy w' v.ownBlock ∧ (v'.ownBlock = v.ownBlock ∨ v'.ownBlock = some w.heap.size) := by
  cases A with
  | some ad =>
    have hc : ∀ j u, news[j]? = some u → w.cell? (ad.add j) = some u := by
      by_cases hm : m = 0
      · subst hm
        have : news = [] := List.eq_nil_of_length_eq_zero (by have := hg.1; omega)
        subst this
        intro j u hu; simp at hu
      · obtain ⟨_, e, q⟩ := hg.2 hm
        cases e
        exact q
    obtain ⟨v', w', q1, q2, q3, _, q5⟩ := run_append_own_at (P := P) w base t ty e i z size bytes ht hi hz hs hb hzs h0 v n xs hown ad m c news hg.1 hc h1 h63 hbytes hbase
    exact ⟨v', w', q1, q2, q3, q5⟩
  | none =>
    have hm : m = 0 := Classical.byContradiction fun q => by obtain ⟨_, e, _⟩ := hg.2 q; cases e
    subst hm
    have : news = [] := List.eq_nil_of_length_eq_zero (by have := hg.1; omega)
    subst this
    refine ⟨v, w, ?_, by simpa using hown, grownBy_same w _, .inl rfl⟩
    obtain ⟨_, ⟨rfl, rfl⟩ | ⟨g, cap, cur, rfl, _, _, hnc, _⟩⟩ := hown
    · simp [Builtin.append_, run_underlying ht, sizeOf, typeInfo, hi, Builtin.lenOf, Builtin.firstCells]
    · simp [Builtin.append_, run_underlying ht, sizeOf, typeInfo, hi, Builtin.lenOf, Builtin.firstCells, hnc, storeCells]
theorem wp_append_gets {o : Oper} {a : Act} {K : Act → World → Prop} {Q : Exit → Act → World → Prop} (s x : Operand) (t : TypeId)
    (ho : o.op = .call { callee := .builtin .append, args := #[s, x], argTypes := #[t, t] }) (base : Nat) (e : TypeId) (i : TypeInfo) (z : Value) (size bytes : Nat) (ht : P.underlying t = some (.slice e)) (hi : P.info? e = some i) (hz : i.zero = some z) (hs : i.size = size) (hb : i.bytes = bytes) (hzs : z.cells.size = size) (h0 : 0 < size)
    (v : Value) (n : Nat) (xs : List Value) (hv : a.eval s = v) (hown : w.ownsRow base e size v n xs) (A : Option Addr) (m c : Nat) (news : List Value) (hx : a.eval x = .slice A m c) (hg : Gets w A m size news) (h1 : ∀ u ∈ news, u.oneCell' = true) (h63 : n + m ≤ maxLen) (hbytes : (n + m) * bytes ≤ 140737488355328) (hbase : base ≤ w.heap.size)
    (h : ∀ v' w', w'.ownsRow base e size v' (n + m) (xs ++ news) → w.grownBy w' v.ownBlock → (v'.ownBlock = v.ownBlock ∨ v'.ownBlock = some w.heap.size) → K (a.put o.dst v') w') : o.wp P a w K Q := by
  obtain ⟨v', w', q1, q2, q3, q4⟩ := run_append_gets (P := P) w base t o.type e i z size bytes ht hi hz hs hb hzs h0 v n xs hown A m c news hg h1 h63 hbytes hbase
  unfold Oper.wp execOp
  simp only [ho, resolve, invoke, builtin, Sem.run_bind, Sem.run_pure, Result.andThen_ok, List.map_toArray, List.map_cons, List.map_nil, hv, hx, q1]
  exact h v' w' q2 q3 q4
theorem wpList_append_gets {ops : Array Oper} {rest : List Oper} {o : Oper} {a : Act} {Q : Exit → Act → World → Prop} (hgd : o.guard = none) (s x : Operand) (t : TypeId)
    (ho : o.op = .call { callee := .builtin .append, args := #[s, x], argTypes := #[t, t] }) (base : Nat) (e : TypeId) (i : TypeInfo) (z : Value) (size bytes : Nat) (ht : P.underlying t = some (.slice e)) (hi : P.info? e = some i) (hz : i.zero = some z) (hs : i.size = size) (hb : i.bytes = bytes) (hzs : z.cells.size = size) (h0 : 0 < size)
    (v : Value) (n : Nat) (xs : List Value) (hv : a.eval s = v) (hown : w.ownsRow base e size v n xs) (A : Option Addr) (m c : Nat) (news : List Value) (hx : a.eval x = .slice A m c) (hg : Gets w A m size news) (h1 : ∀ u ∈ news, u.oneCell' = true) (h63 : n + m ≤ maxLen) (hbytes : (n + m) * bytes ≤ 140737488355328) (hbase : base ≤ w.heap.size)
    (h : ∀ v' w', w'.ownsRow base e size v' (n + m) (xs ++ news) → w.grownBy w' v.ownBlock → (v'.ownBlock = v.ownBlock ∨ v'.ownBlock = some w.heap.size) → wpList P ops Q rest (a.put o.dst v') w') : wpList P ops Q (o :: rest) a w :=
  wpList_plain hgd fun _ hK => wp_append_gets w s x t ho base e i z size bytes ht hi hz hs hb hzs h0 v n xs hv hown A m c news hx hg h1 h63 hbytes hbase fun v' w' q1 q2 q3 => hK _ _ (h v' w' q1 q2 q3)
theorem step_append_gets {ops : Array Oper} {o : Oper} {a : Act} {K : Act → World → Prop} {Q : Exit → Act → World → Prop} {E : Prop} (hgd : o.guard = none) (s x : Operand) (t : TypeId)
    (ho : o.op = .call { callee := .builtin .append, args := #[s, x], argTypes := #[t, t] }) (base : Nat) (e : TypeId) (i : TypeInfo) (z : Value) (size bytes : Nat) (ht : P.underlying t = some (.slice e)) (hi : P.info? e = some i) (hz : i.zero = some z) (hs : i.size = size) (hb : i.bytes = bytes) (hzs : z.cells.size = size) (h0 : 0 < size)
    (v : Value) (n : Nat) (xs : List Value) (hv : a.eval s = v) (hown : w.ownsRow base e size v n xs) (A : Option Addr) (m c : Nat) (news : List Value) (hx : a.eval x = .slice A m c) (hg : Gets w A m size news) (h1 : ∀ u ∈ news, u.oneCell' = true) (h63 : n + m ≤ maxLen) (hbytes : (n + m) * bytes ≤ 140737488355328) (hbase : base ≤ w.heap.size)
    (h : ∀ v' w', w'.ownsRow base e size v' (n + m) (xs ++ news) → w.grownBy w' v.ownBlock → (v'.ownBlock = v.ownBlock ∨ v'.ownBlock = some w.heap.size) → K (a.put o.dst v') w') :
    if Region.wanted o (yielded ops a.tmps) = true then Oper.wp P o a w K Q else E := by
  rw [if_pos (by simp [Region.wanted, hgd])]
  exact wp_append_gets w s x t ho base e i z size bytes ht hi hz hs hb hzs h0 v n xs hv hown A m c news hx hg h1 h63 hbytes hbase h
end
theorem owns_low {w : World} {base base' e size n : Nat} {v : Value} {xs : List Value} (h : w.ownsRow base e size v n xs) (hb : base' ≤ base) : w.ownsRow base' e size v n xs := by
  refine ⟨h.1, ?_⟩
  rcases h.2 with q | ⟨g, cap, cur, e, h1, h2⟩
  · exact .inl q
  · exact .inr ⟨g, cap, cur, e, by omega, h2⟩
end Go.Proofs.Ytoenkcojfogmmaa
/-! The code of one block or region of a function, found by its number (as XAnH, by itself). -/
set_option linter.unusedVariables false
set_option linter.unusedSimpArgs false
namespace Go.Proofs.Ytoenkcojfogmmaa
open Go.RowKit
def codeOf (id : Nat) : Code → Option Code
  | .block i c => bif Nat.beq i id then some c else codeOf id c
  | .seq a b => match codeOf id a with | some o => some o | none => codeOf id b
  | .cond _ a b => match codeOf id a with | some o => some o | none => codeOf id b
  | .loop c => codeOf id c
  | .scope c => codeOf id c
  | .rangeFunc _ _ a b => match codeOf id a with | some o => some o | none => codeOf id b
  | _ => none
def codeIn (id : Nat) (f : Func) : Code := ((f.body.bind (codeOf id))).getD .skip
end Go.Proofs.Ytoenkcojfogmmaa
