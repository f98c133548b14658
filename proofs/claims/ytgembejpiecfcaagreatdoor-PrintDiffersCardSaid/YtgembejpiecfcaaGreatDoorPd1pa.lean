/- Lemmas and contracts for the proof of PrintDiffers (several texts in one, printed by wip/tools/pack.py): Ka TeA VaA. -/
import Derived.Test.YtgembejpiecfcaaGreatDoorRows
import Derived.WalkKit
import Derived.WalkSpells
import Derived.WalkLawsBesides
import Derived.Deep.QuietTactic
import Derived.BigQuiet
import Derived.Lib.Hide
import Derived.StillTailTactics
import Derived.Deep.RegionHeld3
import Derived.Deep.DrawnRows
import Derived.Deep.OwnRows
import Derived.Lib.Strings
set_option maxRecDepth 100000
set_option maxHeartbeats 16000000

/-! Worlds that have only grown: 'xt w O d' is the world w with the blocks O behind its own and the count of draws at d. Every world that is as w was below w's own size is such a one. No conditions. -/
set_option linter.unusedVariables false
set_option linter.unusedSimpArgs false
namespace Go.Proofs.YtgembejpiecfcaaGreatDoor
open Go.RowKit
def xt (w : World) (O : Array Obj) (d : Nat) : World := { w with heap := w.heap ++ O, drawn := d }
@[simp, go_sem] theorem heap_size_xt (w : World) (O : Array Obj) (d : Nat) : (xt w O d).heap.size = w.heap.size + O.size := by
  simp [xt]
@[simp, go_sem] theorem tape_xt (w : World) (O : Array Obj) (d : Nat) : (xt w O d).tape = w.tape := rfl
theorem block_xt (w : World) (O : Array Obj) (d k : Nat) (h : k < w.heap.size) : (xt w O d).heap[k]? = w.heap[k]? := by
  simp only [xt]; rw [Array.getElem?_append_left h]
def Has (w : World) (b : Nat) : Prop := b < w.heap.size
@[simp, go_sem] theorem has_alloc (w : World) (o : Obj) (b : Nat) : Has (w.alloc o) b = (b = w.heap.size ∨ Has w b) := by
  simp only [Has, World.size_alloc, eq_iff_iff]; omega
@[simp, go_sem] theorem has_drew (w : World) (b : Nat) : Has w.drew b = Has w b := rfl
@[simp, go_sem] theorem has_drewN (w : World) (n b : Nat) : Has (w.drewN n) b = Has w b := rfl
@[simp, go_sem] theorem has_setCell (w : World) (a : Addr) (v : Value) (b : Nat) : Has (w.setCell a v) b = Has w b := by
  simp [Has, World.setCell]
@[simp, go_sem] theorem has_xt (w : World) (O : Array Obj) (d b : Nat) : Has (xt w O d) b = (Has w b ∨ (w.heap.size ≤ b ∧ b < w.heap.size + O.size)) := by
  simp only [Has, heap_size_xt, eq_iff_iff]; omega
theorem has_of_cell {w : World} {b o : Nat} {s : Option Nat} {v : Value} (h : w.cell? ⟨b, o, s⟩ = some v) : Has w b := by
  unfold Has
  rcases Nat.lt_or_ge b w.heap.size with h1 | h1
  · exact h1
  · simp [World.cell?, Array.getElem?_eq_none h1] at h
@[simp, go_sem] theorem cell?_xt {w : World} {O : Array Obj} {d b o : Nat} {s : Option Nat} (h : Has w b) : (xt w O d).cell? ⟨b, o, s⟩ = w.cell? ⟨b, o, s⟩ :=
  World.cell?_of_block (w := w) (block_xt w O d b h)
@[simp, go_sem] theorem frozen?_xt {w : World} {O : Array Obj} {d b o : Nat} {s : Option Nat} (h : Has w b) : (xt w O d).frozen? ⟨b, o, s⟩ = w.frozen? ⟨b, o, s⟩ :=
  World.frozen?_of_block (w := w) (block_xt w O d b h)
@[simp, go_sem] theorem cell?_alloc_has {w : World} {x : Obj} {b o : Nat} {s : Option Nat} (h : Has w b) : (w.alloc x).cell? ⟨b, o, s⟩ = w.cell? ⟨b, o, s⟩ :=
  World.cell?_alloc_lt w x ⟨b, o, s⟩ h
@[simp, go_sem] theorem frozen?_alloc_has {w : World} {x : Obj} {b o : Nat} {s : Option Nat} (h : Has w b) : (w.alloc x).frozen? ⟨b, o, s⟩ = w.frozen? ⟨b, o, s⟩ :=
  World.frozen?_of_block (w := w) (Below.heap_alloc w x b h)
@[simp, go_sem] theorem xt_xt (w : World) (O O' : Array Obj) (d d' : Nat) : xt (xt w O d) O' d' = xt w (O ++ O') d' := by
  simp [xt]
@[simp, go_sem] theorem drew_xt (w : World) (O : Array Obj) (d : Nat) : (xt w O d).drew = xt w O (d + 1) := rfl
@[simp, go_sem] theorem xt_drew (w : World) (O : Array Obj) (d : Nat) : xt w.drew O d = xt w O d := rfl
@[simp, go_sem] theorem xt_drewN (w : World) (O : Array Obj) (n d : Nat) : xt (w.drewN n) O d = xt w O d := rfl
theorem setCell_xt (w : World) (O : Array Obj) (d : Nat) (a : Addr) (v : Value) (h : a.block < w.heap.size) : (xt w O d).setCell a v = xt (w.setCell a v) O d := by
  unfold xt World.setCell
  congr 1
  apply Array.ext_getElem?
  intro i
  simp only [Array.getElem?_modify, Array.getElem?_append, Array.size_modify]
  by_cases e : a.block = i
  · subst e; simp [h]
  · simp [e]
@[simp, go_sem] theorem setCell_xt_has {w : World} {O : Array Obj} {d b o : Nat} {s : Option Nat} {v : Value} (h : Has w b) : (xt w O d).setCell ⟨b, o, s⟩ v = xt (w.setCell ⟨b, o, s⟩ v) O d :=
  setCell_xt w O d ⟨b, o, s⟩ v h
@[simp, go_sem] theorem setCell_alloc_has {w : World} {x : Obj} {b o : Nat} {v : Value} (h : Has w b) : (w.alloc x).setCell ⟨b, o, none⟩ v = (w.setCell ⟨b, o, none⟩ v).alloc x :=
  World.setCell_alloc_past x b o v h
theorem below_xt (w : World) (O : Array Obj) (d : Nat) : Below w.heap.size w (xt w O d) :=
  ⟨rfl, rfl, rfl, by simp, fun k hk => block_xt w O d k hk⟩
theorem below_of_xt {w w' : World} (h : ∃ O d, w' = xt w O d) : Below w.heap.size w w' := by
  obtain ⟨O, d, rfl⟩ := h; exact below_xt w O d
theorem xt_of_below {w w' : World} (h : Below w.heap.size w w') : ∃ O d, w' = xt w O d := by
  refine ⟨w'.heap.extract w.heap.size w'.heap.size, w'.drawn, ?_⟩
  obtain ⟨h1, h2, h3, h4, h5⟩ := h
  cases w' with
  | mk heap tape drawn os output =>
  simp only at h1 h2 h3 h4 h5
  subst h1 h2 h3
  simp only [xt, World.mk.injEq, and_true]
  apply Array.ext_getElem?
  intro i
  by_cases hi : i < w.heap.size
  · rw [h5 i hi, Array.getElem?_append_left hi]
  · rw [Array.getElem?_append_right (by omega), Array.getElem?_extract]
    by_cases h' : i < heap.size
    · rw [if_pos (by omega)]; congr 1; omega
    · rw [if_neg (by omega), Array.getElem?_eq_none (by omega)]
theorem xt_self (w : World) : w = xt w #[] w.drawn := by simp [xt]
theorem grows_refl (w : World) : ∃ O d, w = xt w O d := ⟨_, _, xt_self w⟩
theorem grows_drew (w : World) : ∃ O d, w.drew = xt w O d := ⟨#[], w.drawn + 1, by show ({ w with drawn := w.drawn + 1 } : World) = _; simp [xt]⟩
theorem grows_trans {w w' w'' : World} (h : ∃ O d, w' = xt w O d) (k : ∃ O d, w'' = xt w' O d) : ∃ O d, w'' = xt w O d := by
  obtain ⟨O, d, rfl⟩ := h; obtain ⟨O', d', rfl⟩ := k; exact ⟨O ++ O', d', xt_xt _ _ _ _ _⟩
structure More where
  o : Array Obj
  d : Nat
instance : Nonempty More := ⟨⟨#[], 0⟩⟩
theorem wp_region_grows {P : Program} {id : Nat} {Q : Exit → Act → World → Prop} {a : Act} {w : World} {l : List Oper} (hm : P.follows .mixedOrders = true) (hB : Region.lexB .any l.toArray = true)
    (h : wpQuiet P l.toArray (fun w' => ∃ x : More, w' = xt w x.o x.d) (fun a' => ∀ w', (∃ x : More, w' = xt w x.o x.d) → Q .normal a' w') l a) : (Code.region id l.toArray true).wp P Q a w :=
  wp_region_quiet (C := fun w' => ∃ x : More, w' = xt w x.o x.d) hm hB ⟨⟨#[], w.drawn + 1⟩, by simp [xt]⟩ h
def Gr (w w' : World) : Prop := ∃ O d, w' = xt w O d
theorem Gr.below {w w' : World} (h : Gr w w') : Below w.heap.size w w' := below_of_xt h
theorem Gr.of_below {w w' : World} (h : Below w.heap.size w w') : Gr w w' := xt_of_below h
theorem Gr.refl (w : World) : Gr w w := grows_refl w
theorem Gr.trans {w w' w'' : World} (h : Gr w w') (k : Gr w' w'') : Gr w w'' := grows_trans h k
theorem Gr.xt {w w' : World} (O : Array Obj) (d : Nat) (h : Gr w w') : Gr w (xt w' O d) := grows_trans h ⟨O, d, rfl⟩
theorem Gr.drew {w w' : World} (h : Gr w w') : Gr w w'.drew := .of_below h.below.drew
theorem Gr.drewN {w w' : World} (n : Nat) (h : Gr w w') : Gr w (w'.drewN n) := by
  obtain ⟨O, d, rfl⟩ := h; exact ⟨O, d + n, rfl⟩
theorem Gr.size {w w' : World} (h : Gr w w') : w.heap.size ≤ w'.heap.size := h.below.size
theorem Gr.alloc {w w' : World} (o : Obj) (h : Gr w w') : Gr w (w'.alloc o) := .of_below (h.below.alloc h.size o)
theorem Gr.setCell {w w' : World} {a : Addr} (hb : w.heap.size ≤ a.block) (v : Value) (h : Gr w w') : Gr w (w'.setCell a v) := .of_below (h.below.setCell hb v)
theorem ret_bool {a b : Bool} (h : a = b) : Ending.returned (.bool a) = .returned (.bool b) := by rw [h]
theorem ret_int {k : IntKind} {a b : Int} (h : a = b) : Ending.returned (.int k a) = .returned (.int k b) := by rw [h]
def Grows (w : World) (v : Value) (e : Ending) (w' : World) : Prop := e = .returned v ∧ Gr w w'
theorem calls_grows {P : Program} {f : FuncId} {args : Array Value} {w : World} {O : Array Obj} {d : Nat} {v : Value}
    (h : Calls P f args (xt w O d) (Grows (xt w O d) v)) : Calls P f args (xt w O d) fun e w'' => e = .returned v ∧ ∃ x : More, w'' = xt w x.o x.d :=
  h.mono fun _ _ ⟨he, O', d', hw⟩ => ⟨he, ⟨O ++ O', d'⟩, by rw [hw, xt_xt]⟩
end Go.Proofs.YtgembejpiecfcaaGreatDoor
/-! A region that draws its order: operations that are quiet in a class of worlds stand ahead of a tail whose order is forced and which waits for all of them. One walk, in the order of the text, serves every order. No conditions. -/
set_option linter.unusedVariables false
set_option linter.unusedSimpArgs false
namespace Go.Proofs.YtgembejpiecfcaaGreatDoor
open Go.RowKit
section
variable {P : Program} {ops : Array Oper} {md : Region.Mode} {C : World → Prop} {n : Nat} {L : Array Bool → Act → Prop}
def heads (P : Program) (md : Region.Mode) (ops : Array Oper) (C : World → Prop) (n : Nat) (L : Array Bool → Act → Prop) : Nat → Array Bool → Act → Prop
  | 0, done, a => L done a
  | f + 1, done, a => (∃ i, i ∈ Region.ready md ops done) ∧ ∀ i, i ∈ Region.ready md ops done → i < n ∧ qOp P ops C i (heads P md ops C n L f (done.setIfInBounds i true)) a
theorem any_of_heads {g : Nat} {Q' : Exit → Act → World → Prop} (hL : ∀ done a w, C w → L done a → wpAny P md ops Q' g done a w) (f : Nat) :
    ∀ (done : Array Bool) (a : Act) (w : World), C w → heads P md ops C n L f done a → wpAny P md ops Q' (f + g) done a w := by
  induction f with
  | zero => intro done a w hw h; rw [Nat.zero_add]; exact hL _ _ _ hw h
  | succ f ih =>
    intro done a w hw h
    obtain ⟨⟨i0, hi0⟩, hall⟩ := h
    have e : f + 1 + g = (f + g) + 1 := by omega
    rw [e]
    refine ⟨fun h0 => (by rw [h0] at hi0; cases hi0), fun i hi => ?_⟩
    exact wpOp_of_qOp hw (fun a' w' hw' h' => ih _ a' w' hw' h') (hall i hi).2
theorem heads_first {i : Nat} {oi : Oper} {v : Value} (hi : ops[i]? = some oi) (hsel : ∀ (j : Nat) (o : Oper) cs b, ops[j]? = some o → o.op ≠ .select cs b)
    (hs : Region.sinkB md ops n = true) (hc : Region.chainB md ops n = true) (hn : n < ops.size) (hin : i < n) (hend : ∀ done a, L done a → ∀ j ∈ Region.ready md ops done, n ≤ j) (f : Nat) :
    ∀ (done : Array Bool) (a : Act), HeadInv md ops n done →
      (∀ j oj, ops[j]? = some oj → j ≠ i → done.getD j true = false → (∀ e ∈ oj.after, Region.binds md e = true → e.on ≠ i) → oi.apart ops oj = true) →
      i ∈ Region.ready md ops done → YieldsIn P ops C oi v a →
      heads P md ops C n L f (done.setIfInBounds i true) (a.put oi.dst v) → heads P md ops C n L (f + 1) done a := by
  induction f with
  | zero =>
    intro done a inv _ hr hy H
    refine ⟨⟨i, hr⟩, fun j hj => ?_⟩
    have hjn : j < n := Nat.lt_of_not_le fun h => tail_waits hs hc hn inv _ i rfl hin (mem_ready.1 hr).1 j h hj
    refine ⟨hjn, ?_⟩
    by_cases e : j = i
    · subst e; exact hy.qOp hi H
    · exact absurd (hend _ _ H j (ready_mono hj e)) (by omega)
  | succ f ih =>
    intro done a inv hfree hr hy H
    have hun := (mem_ready.1 hr).1
    refine ⟨⟨i, hr⟩, fun j hj => ?_⟩
    have hjn : j < n := Nat.lt_of_not_le fun h => tail_waits hs hc hn inv _ i rfl hin hun j h hj
    refine ⟨hjn, ?_⟩
    by_cases e : j = i
    · subst e; exact hy.qOp hi H
    · obtain ⟨hjun, oj, hoj, hall⟩ := mem_ready.1 hj
      have hno : ∀ x ∈ oj.after, Region.binds md x = true → x.on ≠ i := by
        intro x hx hb hxi
        have := hall x hx hb
        rw [hxi, getD_both hun] at this
        cases this
      have hap := hfree j oj hoj e hjun hno
      have step := qOp_put hoj hap (fun cs b => hsel i oi cs b hi) (fun cs b => hsel j oj cs b hoj) hy (H.2 j (ready_mono hj e)).2
      refine qOp_mono (fun a' ha' => ?_) step
      refine ih (done.setIfInBounds j true) a' (inv.set hj hjn) ?_ (ready_mono hr (Ne.symm e)) ha'.1 ?_
      · intro k ok hk hki hun' hno'
        refine hfree k ok hk hki ?_ hno'
        by_cases ejk : j = k
        · subst ejk; exact hjun
        · rw [getD_set_ne true ejk] at hun'; exact hun'
      · rw [Array.setIfInBounds_comm _ _ e]; exact ha'.2
theorem heads_lex {g : Nat} {Lq : Act → Prop} (hsel : Region.noSelect ops = true) (hs : Region.sinkB md ops n = true) (hc : Region.chainB md ops n = true) (hn : n < ops.size) :
    ∀ (l : List Oper) (k : Nat) (done : Array Bool) (a : Act), (∀ j, j < l.length → l[j]? = ops[k + j]?) → k + l.length = n → HeadInv md ops n done →
    Region.lexHead md ops g l.length k done = true → wpQuiet P ops C Lq l a → heads P md ops C n (fun d b => Region.seqB md ops g n d = true ∧ Lq b) l.length done a := by
  intro l
  induction l with
  | nil =>
    intro k done a _ hk _ hB h
    obtain rfl : k = n := by simpa using hk
    exact ⟨hB, h⟩
  | cons o l ih =>
    intro k done a hl hk inv hB h
    have h0 : ops[k]? = some o := (hl 0 (by simp)).symm
    simp only [List.length_cons, Region.lexHead, Bool.and_eq_true] at hB
    obtain ⟨⟨hr, hf⟩, hB'⟩ := hB
    simp only [List.length_cons] at hk
    have hr' : k ∈ Region.ready md ops done := by simpa using hr
    obtain ⟨v, hy, hK⟩ := yieldsIn_of_qOp (K := wpQuiet P ops C Lq l) h0 (by unfold qOp; simp only [h0]; exact h)
    refine heads_first h0 (Region.noSelect_spec hsel) hs hc hn (by omega) (fun d b hd => seqB_ready hd.1) l.length done a inv (Region.free_spec h0 hf) hr' hy ?_
    refine ih (k + 1) _ _ (fun j hj => ?_) (by omega) (inv.set hr' (by omega)) hB' hK
    have := hl (j + 1) (by simp; omega)
    rw [show k + 1 + j = k + (j + 1) by omega]
    simpa using this
theorem wp_region_class_tail {id : Nat} {Q : Exit → Act → World → Prop} {a : Act} {w : World} {l : List Oper} (n : Nat) (hm : P.follows .mixedOrders = true) (hB : Region.lexTailB .any l.toArray n = true) (hC : C w.drew)
    (h : wpQuiet P l.toArray C (fun a' => ∀ w', C w' → wpList P l.toArray Q (l.drop n) a' w') (l.take n) a) : (Code.region id l.toArray true).wp P Q a w := by
  simp only [Region.lexTailB, Bool.and_eq_true, decide_eq_true_eq] at hB
  obtain ⟨⟨⟨⟨hsel, hn⟩, hs⟩, hc⟩, hlex⟩ := hB
  have hnl : n < l.length := by simpa using hn
  have e1 : (l.take n).length = n := by simp; omega
  have e2 : (l.drop n).length = l.toArray.size - n := by simp
  have inv0 : HeadInv .any l.toArray n (Array.replicate l.toArray.size false) :=
    ⟨by simp, fun j oj _ hj => (by rw [getD_replicate_false] at hj; cases hj), fun t _ ht => getD_in (by simpa using ht) (getD_replicate_false _ _)⟩
  have H := heads_lex (P := P) (C := C) (md := .any) (g := l.toArray.size - n) hsel hs hc hn (l.take n) 0 _ a
    (fun j hj => by rw [e1] at hj; simp [hj]) (by omega) inv0 (by rw [e1]; exact hlex) h
  rw [e1] at H
  refine wp_region_any hm ?_
  have := any_of_heads (Q' := Q) (g := l.toArray.size - n) (fun d b w' hw' hL => by
    have := wpAny_of_seq (md := .any) (Q' := Q) (l.drop n) n d b w' (fun j => by simp [List.getElem?_drop]) (by rw [e2]; exact hL.1) (hL.2 w' hw')
    rwa [e2] at this) n _ a w.drew hC H
  rw [show n + (l.toArray.size - n) = l.toArray.size by omega] at this
  exact this
theorem wp_region_grows_tail {id : Nat} {Q : Exit → Act → World → Prop} {a : Act} {w : World} {l : List Oper} (n : Nat) (hm : P.follows .mixedOrders = true) (hB : Region.lexTailB .any l.toArray n = true)
    (h : wpQuiet P l.toArray (fun w' => ∃ x : More, w' = xt w x.o x.d) (fun a' => ∀ w', (∃ x : More, w' = xt w x.o x.d) → wpList P l.toArray Q (l.drop n) a' w') (l.take n) a) : (Code.region id l.toArray true).wp P Q a w :=
  wp_region_class_tail n hm hB (let ⟨O, d, h⟩ := grows_drew w; ⟨⟨O, d⟩, h⟩) h
end
end Go.Proofs.YtgembejpiecfcaaGreatDoor
/-! Lists in memory: what a slice reads as, and that this stays while memory only grows. No conditions. -/
set_option linter.unusedVariables false
set_option linter.unusedSimpArgs false
namespace Go.Proofs.YtgembejpiecfcaaGreatDoor
open Go.RowKit
def Wide (x : Int) : Prop := -9223372036854775808 ≤ x ∧ x ≤ 9223372036854775807
def Fit (n : Nat) : Prop := n ≤ 140737488351232
def SlOf {α : Type} (n : Nat) (R : World → Nat → Nat → α → Prop) (w : World) (ao : Option Addr) (xs : List α) : Prop :=
  ∀ k (h : k < xs.length), ∃ b o, ao = some ⟨b, o, none⟩ ∧ R w b (o + k * n) xs[k]
def Mono {α : Type} (R : World → Nat → Nat → α → Prop) : Prop := ∀ w w' b o x, Gr w w' → R w b o x → R w' b o x
theorem SlOf.gr {α : Type} {n : Nat} {R : World → Nat → Nat → α → Prop} (hR : Mono R) {w w' : World} {ao : Option Addr} {xs : List α} (h : SlOf n R w ao xs) (hg : Gr w w') : SlOf n R w' ao xs := by
  intro k hk
  obtain ⟨b, o, h1, h2⟩ := h k hk
  exact ⟨b, o, h1, hR _ _ _ _ _ hg h2⟩
theorem SlOf.nil {α : Type} (n : Nat) (R : World → Nat → Nat → α → Prop) (w : World) (ao : Option Addr) : SlOf n R w ao [] := fun k h => by simp at h
theorem SlOf.one {α : Type} {R : World → Nat → Nat → α → Prop} {w : World} {ao : Option Addr} {xs : List α} (h : SlOf 1 R w ao xs) (k : Nat) (hk : k < xs.length) : ∃ b o, ao = some ⟨b, o, none⟩ ∧ R w b (o + k) xs[k] := by
  have := h k hk; rwa [Nat.mul_one] at this
theorem cell_gr {w w' : World} {b o : Nat} {s : Option Nat} {v : Value} (hg : Gr w w') (h : w.cell? ⟨b, o, s⟩ = some v) : w'.cell? ⟨b, o, s⟩ = some v := by
  obtain ⟨O, d, rfl⟩ := hg
  rw [cell?_xt (has_of_cell h)]; exact h
def RI (w : World) (b o : Nat) (x : Int) : Prop := w.cell? ⟨b, o, none⟩ = some (.int .i64 x) ∧ Wide x
def RB (w : World) (b o : Nat) (x : Bool) : Prop := w.cell? ⟨b, o, none⟩ = some (.bool x)
def RSl {α : Type} (n : Nat) (R : World → Nat → Nat → α → Prop) (w : World) (b o : Nat) (xs : List α) : Prop :=
  ∃ ao cap, w.cell? ⟨b, o, none⟩ = some (.slice ao xs.length cap) ∧ xs.length ≤ cap ∧ Fit xs.length ∧ SlOf n R w ao xs
theorem RI.mono : Mono RI := fun _ _ _ _ _ hg h => ⟨cell_gr hg h.1, h.2⟩
theorem RSl.mono {α : Type} {n : Nat} {R : World → Nat → Nat → α → Prop} (hR : Mono R) : Mono (RSl n R) := fun _ _ _ _ _ hg ⟨ao, cap, h1, h2, h3, h4⟩ =>
  ⟨ao, cap, cell_gr hg h1, h2, h3, h4.gr hR hg⟩
theorem SlOf.giI {w w' : World} {ao : Option Addr} {xs : List Int} (h : SlOf 1 RI w ao xs) (hg : Gr w w') : SlOf 1 RI w' ao xs := h.gr RI.mono hg
/-! Rows of the call's own -/
def Row (w : World) (B T : Nat) (vs : List Value) : Prop := w.heap[B]? = some (.cells vs.toArray T (0, 0))
theorem Row.cell {w : World} {B T : Nat} {vs : List Value} (h : Row w B T vs) (k : Nat) (hk : k < vs.length) : w.cell? ⟨B, k, none⟩ = some vs[k] := by
  unfold Row at h
  simp [World.cell?, h, hk]
theorem Row.free {w : World} {B T : Nat} {vs : List Value} (h : Row w B T vs) (k : Nat) : w.frozen? ⟨B, k, none⟩ = false := by
  unfold Row at h
  simp [World.frozen?, h]
theorem Row.has {w : World} {B T : Nat} {vs : List Value} (h : Row w B T vs) : Has w B := by
  unfold Row at h
  exact (Array.getElem?_eq_some_iff.1 h).1
theorem Row.set {w : World} {B T : Nat} {vs : List Value} (h : Row w B T vs) (k : Nat) (v : Value) : Row (w.setCell ⟨B, k, none⟩ v) B T (vs.set k v) := by
  unfold Row at *
  simp [World.setCell, Array.getElem?_modify, h]
theorem Row.other {w : World} {B T : Nat} {vs : List Value} (h : Row w B T vs) (a : Addr) (v : Value) (ha : a.block ≠ B) : Row (w.setCell a v) B T vs := by
  unfold Row at *
  simp [World.setCell, Array.getElem?_modify, ha, h]
theorem Row.oth {w : World} {B T b o : Nat} {vs : List Value} {v : Value} (h : Row w B T vs) (ha : b ≠ B) : Row (w.setCell ⟨b, o, none⟩ v) B T vs := h.other _ _ ha
theorem Gr.setc {w w' : World} {b o : Nat} {v : Value} (hb : w.heap.size ≤ b) (h : Gr w w') : Gr w (w'.setCell ⟨b, o, none⟩ v) := h.setCell hb v
theorem Row.gr {w w' : World} {B T : Nat} {vs : List Value} (h : Row w B T vs) (hg : Gr w w') : Row w' B T vs := by
  have hb := h.has
  unfold Row at *
  obtain ⟨O, d, rfl⟩ := hg
  rw [block_xt w O d B hb]; exact h
theorem Row.alloc {w : World} {B T : Nat} {vs : List Value} (o : Obj) (h : Row w B T vs) : Row (w.alloc o) B T vs := h.gr ((Gr.refl w).alloc o)
theorem Row.xt {w : World} {B T : Nat} {vs : List Value} (O : Array Obj) (d : Nat) (h : Row w B T vs) : Row (xt w O d) B T vs := h.gr ((Gr.refl w).xt O d)
theorem Row.drew {w : World} {B T : Nat} {vs : List Value} (h : Row w B T vs) : Row w.drew B T vs := h.gr (Gr.refl w).drew
theorem Row.drewN {w : World} {B T : Nat} {vs : List Value} (n : Nat) (h : Row w B T vs) : Row (w.drewN n) B T vs := h.gr ((Gr.refl w).drewN n)
theorem Row.new (w : World) (arr : Array Value) (T : Nat) : Row (w.alloc (.cells arr T)) w.heap.size T arr.toList := by
  unfold Row
  rw [Go.Deep.blk_alloc_new w _]
end Go.Proofs.YtgembejpiecfcaaGreatDoor
/-! The tape that the statements read their numbers from: what its functions return, as far as the statements need it (a number in the range that is asked for), and that they move the tape's place and nothing else. -/
set_option linter.unusedVariables false
set_option linter.unusedSimpArgs false
namespace Go.Proofs.YtgembejpiecfcaaGreatDoor
open Go.RowKit
theorem setCell_id {w : World} {a : Addr} {v : Value} (h : w.cell? a = some v) : w.setCell a v = w := by
  unfold World.setCell
  unfold World.cell? at h
  cases w with
  | mk heap tape drawn os output =>
  simp only [World.mk.injEq, and_true] at *
  apply Array.ext_getElem?
  intro i
  rw [Array.getElem?_modify]
  split
  · rename_i e
    subst e
    cases hb : heap[a.block]? with
    | none => simp
    | some o =>
      simp only [hb] at h
      cases o with
      | cells c t f =>
        simp only at h
        split at h
        · cases h
        · rename_i hs
          simp only [Option.map_some, Option.some.injEq, hs]
          congr 1
          apply Array.ext_getElem?
          intro j
          simp only [Bool.false_eq_true, if_false]
          rw [Array.getElem?_setIfInBounds]
          split
          · rename_i e; subst e; split
            · exact h.symm
            · rename_i hn; rw [Array.getElem?_eq_none (by omega)] at h; cases h
          · rfl
      | _ => cases h
  · rfl
@[simp, go_sem] theorem setCell_setCell (w : World) (a : Addr) (u v : Value) : (w.setCell a u).setCell a v = w.setCell a v := by
  unfold World.setCell
  congr 1
  apply Array.ext_getElem?
  intro i
  simp only [Array.getElem?_modify]
  split
  · cases w.heap[i]? with
    | none => rfl
    | some o =>
      cases o with
      | cells c t f =>
        simp only [Option.map_some, Option.some.injEq]
        congr 1
        split
        · rfl
        · apply Array.ext_getElem?
          intro j
          simp only [Array.getElem?_setIfInBounds, Array.size_setIfInBounds]
          split <;> rfl
      | _ => rfl
  · rfl
def IntsIn (w : World) (b : Nat) (ao : Option Addr) (len : Nat) : Prop :=
  ∀ k, k < len → ∃ eb eo x, ao = some ⟨eb, eo, none⟩ ∧ eb ≠ b ∧ w.cell? ⟨eb, eo + k, none⟩ = some (.int .i64 x) ∧ -9223372036854775808 ≤ x ∧ x ≤ 9223372036854775807
def Tape (w : World) (b : Nat) (p : Int) (len : Nat) : Prop :=
  ∃ ao cap, w.cell? ⟨b, 0, none⟩ = some (.slice ao len cap) ∧ w.cell? ⟨b, 1, none⟩ = some (.int .i64 p) ∧ w.frozen? ⟨b, 1, none⟩ = false ∧ 0 ≤ p ∧ p ≤ len ∧ len ≤ 500 ∧ IntsIn w b ao len
theorem Tape.has {w : World} {b : Nat} {p : Int} {len : Nat} (h : Tape w b p len) : Has w b := by
  obtain ⟨ao, cap, h1, _⟩ := h; exact has_of_cell h1
theorem IntsIn.gr {w w' : World} {b : Nat} {ao : Option Addr} {len : Nat} (h : IntsIn w b ao len) (hg : Gr w w') : IntsIn w' b ao len := by
  intro k hk
  obtain ⟨eb, eo, x, h1, h2, h3, h4⟩ := h k hk
  obtain ⟨O, d, rfl⟩ := hg
  exact ⟨eb, eo, x, h1, h2, by rw [cell?_xt (has_of_cell h3)]; exact h3, h4⟩
theorem Tape.gr {w w' : World} {b : Nat} {p : Int} {len : Nat} (h : Tape w b p len) (hg : Gr w w') : Tape w' b p len := by
  have hb := h.has
  obtain ⟨ao, cap, h1, h2, h3, h4, h5, h6, h7⟩ := h
  have h7' := h7.gr hg
  obtain ⟨O, d, rfl⟩ := hg
  exact ⟨ao, cap, by rw [cell?_xt hb]; exact h1, by rw [cell?_xt hb]; exact h2, by rw [frozen?_xt hb]; exact h3, h4, h5, h6, h7'⟩
theorem Tape.set {w : World} {b : Nat} {p : Int} {len : Nat} (h : Tape w b p len) {p' : Int} (h0 : 0 ≤ p') (h1 : p' ≤ len) : Tape (w.setCell ⟨b, 1, none⟩ (.int .i64 p')) b p' len := by
  obtain ⟨ao, cap, c0, c1, c2, c3, c4, c5, c6⟩ := h
  refine ⟨ao, cap, ?_, ?_, ?_, h0, h1, c5, ?_⟩
  · rw [World.cell?_setCell_other _ _ _ _ (by simp)]; exact c0
  · exact World.cell?_setCell_same _ _ _ c1
  · rw [World.frozen?_setCell]; exact c2
  · intro k hk
    obtain ⟨eb, eo, x, d1, d2, d3, d4⟩ := c6 k hk
    exact ⟨eb, eo, x, d1, d2, by rw [World.cell?_setCell_other _ _ _ _ (by simp)]; exact d3, d4⟩
def Reads (w : World) (b len : Nat) (S : Int → Prop) (e : Ending) (w' : World) : Prop :=
  ∃ x p', e = .returned (.int .i64 x) ∧ S x ∧ 0 ≤ p' ∧ p' ≤ (len : Int) ∧ Gr (w.setCell ⟨b, 1, none⟩ (.int .i64 p')) w'
def InTo (lo hi x : Int) : Prop := lo ≤ x ∧ x ≤ hi
theorem raw_any (w : World) (b len : Nat) (p : Int) (h : Tape w b p len) :
    Calls Tryz.prog 73 #[.pointer (some ⟨b, 0, none⟩)] w (Reads w b len Wide) := by
  have hb := h.has
  obtain ⟨ao, cap, c0, c1, c2, c3, c4, c5, c6⟩ := h
  by_cases hp : p < len
  · obtain ⟨k, rfl⟩ := Int.eq_ofNat_of_zero_le c3
    obtain ⟨eb, eo, x, d1, d2, d3, d4, d5⟩ := c6 k (by omega)
    subst d1
    have d6 := has_of_cell d3
    have d7 : (w.setCell ⟨b, 1, none⟩ (.int .i64 (k + 1))).cell? ⟨eb, eo + k, none⟩ = some (.int .i64 x) := by
      rw [World.cell?_setCell_other _ _ _ _ (by simp)]; exact d3
    clear c6
    go_enter Tryz.func73, Tryz.ntmps73
    go_wp2
    go_quiet (fail)
    go_wp2
    have e1 : (k : Int) + 1 - 1 = k := by omega
    go_quiet (fail)
    go_wp2
    go_ret
    refine ⟨x, (k : Int) + 1, rfl, ⟨d4, d5⟩, by omega, by omega, ?_⟩
    repeat (first | exact Gr.refl _ | refine Gr.xt _ _ ?_ | refine Gr.alloc _ ?_ | refine Gr.drewN _ ?_)
  · have hp' : (len : Int) ≤ p := by omega
    clear c6
    go_enter Tryz.func73, Tryz.ntmps73
    go_wp2
    go_quiet (fail)
    go_wp2
    go_ret
    exact ⟨0, p, rfl, by unfold Wide; omega, c3, c4, by rw [setCell_id c1]; exact (Gr.refl w).drewN _⟩
theorem tmod_fix (x n : Int) (hn : 1 ≤ n) : (x.tmod n < 0 → x.tmod n + n = x % n) ∧ (0 ≤ x.tmod n → x.tmod n = x % n) := by
  have h := @Int.tmod_eq_emod x n
  have h1 := Int.emod_nonneg x (show n ≠ 0 by omega)
  have h2 := Int.emod_lt_of_pos x (show 0 < n by omega)
  have h3 : (n.natAbs : Int) = n := by omega
  split at h <;> constructor <;> intro h4 <;> omega
theorem mod_any (x n : Int) (w : World) (hx : Wide x) (hn : 1 ≤ n) (hn1 : n ≤ 9223372036854775807) :
    Calls Tryz.prog 72 #[.int .i64 x, .int .i64 n] w fun e w' => e = .returned (.int .i64 (x % n)) ∧ w = w' := by
  obtain ⟨hx0, hx1⟩ := hx
  have h := tmod_fix x n hn
  have h1 := Int.emod_nonneg x (show n ≠ 0 by omega)
  have h2 := Int.emod_lt_of_pos x (show 0 < n by omega)
  have h3 := Int.tmod_lt_of_pos x (show 0 < n by omega)
  have h4 : -n ≤ x.tmod n := by
    rcases Int.lt_or_le (x.tmod n) 0 with q | q
    · have := h.1 q; omega
    · omega
  have H := Lib.hid h
  clear h
  by_cases hs : x.tmod n < 0
  · have := H.out.1 hs
    have T := Lib.hid this
    clear this
    go_enter Tryz.func72, Tryz.ntmps72
    go_wp2
    go_ret
    exact ⟨ret_int T.out, rfl⟩
  · have := H.out.2 (by omega)
    have T := Lib.hid this
    clear this
    go_enter Tryz.func72, Tryz.ntmps72
    go_wp2
    go_ret
    exact ⟨ret_int T.out, rfl⟩
theorem n_any (w : World) (b len : Nat) (p n : Int) (h : Tape w b p len) (hn : 1 ≤ n) (hn1 : n ≤ 9223372036854775807) :
    Calls Tryz.prog 29 #[.pointer (some ⟨b, 0, none⟩), .int .i64 n] w (Reads w b len (InTo 0 (n - 1))) := by
  have H := Lib.hid h
  clear h
  go_enter Tryz.func29, Tryz.ntmps29
  go_wp2_with fail
  refine (raw_any _ b len p H.out).mono ?_
  rintro e w' ⟨x, p', rfl, hx, q0, q1, O, d, rfl⟩
  have hx0 := hx.1
  have hx1 := hx.2
  go_wp2_with fail
  refine (mod_any x n _ hx hn hn1).mono ?_
  rintro e w' ⟨rfl, rfl⟩
  go_wp2_with fail
  go_ret
  exact ⟨x % n, p', rfl, ⟨Int.emod_nonneg x (show n ≠ 0 by omega), by have := Int.emod_lt_of_pos x (show 0 < n by omega); omega⟩, q0, q1, O, d, rfl⟩
theorem range_any (w : World) (b len : Nat) (p lo hi : Int) (h : Tape w b p len) (hl : 0 ≤ lo) (hh : lo ≤ hi) (hh1 : hi ≤ 9223372036854775806) :
    Calls Tryz.prog 43 #[.pointer (some ⟨b, 0, none⟩), .int .i64 lo, .int .i64 hi] w (Reads w b len (InTo lo hi)) := by
  have H := Lib.hid h
  clear h
  go_enter Tryz.func43, Tryz.ntmps43
  go_wp2_with fail
  refine (n_any _ b len p _ H.out (by omega) (by omega)).mono ?_
  rintro e w' ⟨x, p', rfl, hx, q0, q1, O, d, rfl⟩
  have hx0 := hx.1
  have hx1 := hx.2
  go_wp2_with fail
  go_ret
  exact ⟨lo + x, p', rfl, ⟨by omega, by omega⟩, q0, q1, O, d, rfl⟩
theorem pick_any (w : World) (b len : Nat) (p : Int) (h : Tape w b p len) (eb n : Nat) (S : Int → Prop) (hn : 1 ≤ n) (hn1 : n ≤ 1000) (hne : eb ≠ b) (hel : ∀ k, k < n → ∃ x, w.cell? ⟨eb, k, none⟩ = some (.int .i64 x) ∧ S x) :
    Calls Tryz.prog 34 #[.pointer (some ⟨b, 0, none⟩), .slice (some ⟨eb, 0, none⟩) n n] w (Reads w b len S) := by
  have H := Lib.hid h
  have HE := Lib.hid hel
  clear h hel
  go_enter Tryz.func34, Tryz.ntmps34
  go_wp2_with fail
  refine (n_any _ b len p _ H.out (by omega) (by omega)).mono ?_
  rintro e w' ⟨y, p', rfl, hy, q0, q1, O, d, rfl⟩
  have hy0 := hy.1
  have hy1 := hy.2
  obtain ⟨k, rfl⟩ := Int.eq_ofNat_of_zero_le hy0
  obtain ⟨x, hx, hS⟩ := HE.out k (by omega)
  have hHas := has_of_cell hx
  have hx' : (w.setCell ⟨b, 1, none⟩ (.int .i64 p')).cell? ⟨eb, k, none⟩ = some (.int .i64 x) := by
    rw [World.cell?_setCell_other _ _ _ _ (by simp)]; exact hx
  have hk : (k : Int) < n := by omega
  have hS' := Lib.hid hS
  clear hS
  go_wp2_with fail
  go_ret
  exact ⟨x, p', rfl, hS'.out, q0, q1, O, d, rfl⟩
theorem grr {w w' : World} (h : Gr w w' := by repeat (first | with_reducible exact Gr.refl _ | with_reducible refine Gr.drew ?_ | with_reducible refine Gr.drewN _ ?_ | with_reducible refine Gr.xt _ _ ?_ | with_reducible refine Gr.alloc _ ?_)) : Gr w w' := h
end Go.Proofs.YtgembejpiecfcaaGreatDoor

set_option linter.unusedVariables false
set_option linter.unusedSimpArgs false
namespace Go.Proofs.YtgembejpiecfcaaGreatDoor
open Go.RowKit
abbrev St := List UInt8
def bs (l : St) : ByteArray := ⟨l.toArray⟩
@[simp, go_sem] theorem bs_data (l : St) : (bs l).data.toList = l := by simp [bs]
@[simp, go_sem] theorem bs_size (l : St) : (bs l).size = l.length := by simp [bs, ByteArray.size]
@[simp, go_sem] theorem bs_toList (l : St) : (bs l).toList = l := by rw [Lib.toList_data, bs_data]
theorem bs_of (s : ByteArray) : s = bs s.data.toList := by
  unfold bs; rw [Lib.mk_data]
@[simp, go_sem] theorem bs_append (a b : St) : bs a ++ bs b = bs (a ++ b) := by
  rw [bs_of (bs a ++ bs b)]; simp [bs, ByteArray.data_append]
@[simp, go_sem] theorem bs_extract (l : St) (a b : Nat) : (bs l).extract a b = bs ((l.drop a).take (b - a)) := by
  rw [bs_of ((bs l).extract a b), Lib.extract_data, bs_data]
@[simp, go_sem] theorem bs_get (l : St) (k : Nat) (h : k < (bs l).size) : (bs l)[k]'h = l[k]'(by simpa using h) := by
  simp [bs, ByteArray.getElem_eq_getElem_data]
@[simp, go_sem] theorem lit_append (a : UInt8) (l : St) : (⟨#[a]⟩ : ByteArray) ++ bs l = bs (a :: l) := bs_append [a] l
theorem bs_inj {a b : St} (h : bs a = bs b) : a = b := by rw [← bs_data a, h, bs_data]
structure Prp where
  name : St
  val : St
  deriving DecidableEq
structure Nod where
  parent : Int
  name : St
  props : List Prp
  deriving DecidableEq
instance : Inhabited Prp := ⟨⟨[], []⟩⟩
instance : Inhabited Nod := ⟨⟨0, [], []⟩⟩
abbrev Tr := List Nod
def RS (w : World) (b o : Nat) (s : St) : Prop := w.cell? ⟨b, o, none⟩ = some (.string (bs s)) ∧ s.length ≤ 9223372036854775807
def RPrp (w : World) (b o : Nat) (p : Prp) : Prop := RS w b o p.name ∧ RS w b (o + 1) p.val
def RNod (w : World) (b o : Nat) (n : Nod) : Prop := RI w b o n.parent ∧ RS w b (o + 1) n.name ∧ RSl 2 RPrp w b (o + 2) n.props
theorem RS.mono : Mono RS := fun _ _ _ _ _ hg h => ⟨cell_gr hg h.1, h.2⟩
theorem RPrp.mono : Mono RPrp := fun _ _ _ _ _ hg h => ⟨RS.mono _ _ _ _ _ hg h.1, RS.mono _ _ _ _ _ hg h.2⟩
theorem RNod.mono : Mono RNod := fun _ _ _ _ _ hg h => ⟨RI.mono _ _ _ _ _ hg h.1, RS.mono _ _ _ _ _ hg h.2.1, RSl.mono RPrp.mono _ _ _ _ _ hg h.2.2⟩
/-! Names. -/
def letC (c : Int) : Bool := decide (97 ≤ c) && decide (c ≤ 122) || decide (65 ≤ c) && decide (c ≤ 90)
def digC (c : Int) : Bool := decide (48 ≤ c) && decide (c ≤ 57)
def wrdC (c : Int) : Bool := letC c || digC c || c == 95
def sgnS : St := [44, 46, 43, 45, 63, 35, 64]
def namC (c : UInt8) : Bool := wrdC c.toNat || sgnS.contains c
def chr (s : St) (i : Nat) : Int := ((s.getD i 0).toNat : Int)
def nameOk (s : St) : Bool := decide (1 ≤ s.length) && decide (s.length ≤ 31) && (letC (chr s 0) || chr s 0 == 95) && s.all namC
def undr (s : St) : St := if s.head? = some 35 then 95 :: s.tail else s
def propOk (s : St) : Bool := nameOk (undr s) && !(undr s).contains 64
def ltS (a b : St) : Bool := Op.bytesLess a b
/-! The check. -/
def nodNm (i : Nat) (n : Nod) : Bool := (if i = 0 then decide (n.parent = -1) && decide (n.name = []) else decide (0 ≤ n.parent) && decide (n.parent < i) && nameOk n.name) && n.props.all (fun p => propOk p.name)
def namedT (ts : Tr) : Bool := (List.range ts.length).all (fun i => nodNm i (ts.getD i default))
def ascP (ps : List Prp) : Bool := (List.range (ps.length - 1)).all (fun k => ltS (ps.getD k default).name (ps.getD (k + 1) default).name)
def par (ts : Tr) (u : Int) : Int := (ts.getD u.toNat default).parent
def climb (ts : Tr) (p : Int) : Nat → Int → Int
  | 0, u => u
  | f + 1, u => if u < 0 then u else if u = p then u else climb ts p f (par ts u)
def walkN (ts : Tr) : Nat → Option (List St)
  | 0 => some (List.replicate ts.length [])
  | i + 1 => match walkN ts i with
    | none => none
    | some last =>
      let n := ts.getD i default
      if ascP n.props then
        if i = 0 then some last else
        let u := climb ts n.parent i (i - 1)
        if u < 0 then none else if ltS n.name (last.getD u.toNat []) then none else some (last.set u.toNat n.name)
      else none
def keyN (n : Nod) : St × Int := (n.name, n.parent)
def dupT (ts : Tr) : Bool := (List.range ts.length).any (fun i => decide (0 < i) && ((ts.take i).map keyN).contains (keyN (ts.getD i default)))
def depN (ts : Tr) : Nat → Int → Nat
  | 0, _ => 0
  | f + 1, u => if 0 < u then depN ts f (par ts u) + 1 else 0
def bigN (n : Nod) : Bool := decide (24 < n.props.length) || n.props.any (fun p => decide (256 < p.val.length))
def chkT (ts : Tr) : Int :=
  if ts.length = 0 ∨ 120 < ts.length then 3 else
  if ts.any bigN then 3 else
  if namedT ts = false then 1 else
  if (walkN ts ts.length).isNone then 12 else
  if dupT ts then 5 else
  if (List.range ts.length).any (fun i => decide (8 < depN ts i (i : Int))) then 2 else 0
end Go.Proofs.YtgembejpiecfcaaGreatDoor

set_option linter.unusedVariables false
set_option linter.unusedSimpArgs false
namespace Go.Proofs.YtgembejpiecfcaaGreatDoor
open Go.RowKit
open Classical
/-! Names. -/
theorem vlt_irr : ∀ a : St, ltS a a = false
  | [] => rfl
  | a :: x => by have := vlt_irr x; unfold ltS at this ⊢; simp [Op.bytesLess, this]
theorem vlt_trans : ∀ {a b c : St}, ltS a b = true → ltS b c = true → ltS a c = true
  | [], [], _, h, _ => by simp [ltS, Op.bytesLess] at h
  | _ :: _, [], _, h, _ => by simp [ltS, Op.bytesLess] at h
  | _, _ :: _, [], _, h => by simp [ltS, Op.bytesLess] at h
  | [], _ :: _, _ :: _, _, _ => rfl
  | a :: x, b :: y, c :: z, h, k => by
    have ih := @vlt_trans x y z
    unfold ltS at h k ih ⊢
    simp only [Op.bytesLess, Bool.or_eq_true, decide_eq_true_eq, Bool.and_eq_true, beq_iff_eq] at h k ⊢
    rcases h with h | ⟨rfl, h⟩
    · rcases k with k | ⟨rfl, k⟩
      · exact .inl (UInt8.lt_trans h k)
      · exact .inl h
    · rcases k with k | ⟨rfl, k⟩
      · exact .inl k
      · exact .inr ⟨rfl, ih h k⟩
theorem vlt_tot : ∀ (a b : St), ltS a b = true ∨ a = b ∨ ltS b a = true
  | [], [] => .inr (.inl rfl)
  | [], _ :: _ => .inl rfl
  | _ :: _, [] => .inr (.inr rfl)
  | a :: x, b :: y => by
    have ih := vlt_tot x y
    unfold ltS at ih ⊢
    simp only [Op.bytesLess, Bool.or_eq_true, decide_eq_true_eq, Bool.and_eq_true, beq_iff_eq, List.cons.injEq]
    rcases Nat.lt_trichotomy a.toNat b.toNat with h | h | h
    · exact .inl (.inl (UInt8.lt_iff_toNat_lt.2 h))
    · have e : a = b := UInt8.toNat_inj.1 h
      subst e
      rcases ih with q | q | q
      · exact .inl (.inr ⟨rfl, q⟩)
      · exact .inr (.inl ⟨rfl, q⟩)
      · exact .inr (.inr (.inr ⟨rfl, q⟩))
    · exact .inr (.inr (.inl (UInt8.lt_iff_toNat_lt.2 h)))
theorem vlt_not {a b : St} (h : ltS a b = true) : ltS b a = false := by
  rw [← Bool.not_eq_true]; intro k; have := vlt_trans h k; rw [vlt_irr] at this; cases this
theorem vlt_ne {a b : St} (h : ltS a b = true) : a ≠ b := by rintro rfl; rw [vlt_irr] at h; cases h
/-! Ascending lists of numbers. -/
theorem asc_ext : ∀ {l m : List Nat}, l.Pairwise (· < ·) → m.Pairwise (· < ·) → (∀ i, i ∈ l ↔ i ∈ m) → l = m
  | [], [], _, _, _ => rfl
  | [], b :: m, _, _, h => absurd ((h b).2 (by simp)) (by simp)
  | a :: l, [], _, _, h => absurd ((h a).1 (by simp)) (by simp)
  | a :: l, b :: m, hl, hm, h => by
    rw [List.pairwise_cons] at hl hm
    have hab : a = b := by
      rcases List.mem_cons.1 ((h a).1 (by simp)) with q | q
      · exact q
      · rcases List.mem_cons.1 ((h b).2 (by simp)) with r | r
        · exact r.symm
        · have := hm.1 a q; have := hl.1 b r; omega
    subst hab
    rw [asc_ext hl.2 hm.2 (fun i => ⟨fun q => ?_, fun q => ?_⟩)]
    · rcases List.mem_cons.1 ((h i).1 (List.mem_cons_of_mem _ q)) with r | r
      · subst r; have := hl.1 i q; omega
      · exact r
    · rcases List.mem_cons.1 ((h i).2 (List.mem_cons_of_mem _ q)) with r | r
      · subst r; have := hm.1 i q; omega
      · exact r
theorem asc_range (s n : Nat) : (List.range' s n).Pairwise (· < ·) := List.pairwise_lt_range'
theorem asc_filter {l : List Nat} (p : Nat → Bool) (h : l.Pairwise (· < ·)) : (l.filter p).Pairwise (· < ·) := h.sublist List.filter_sublist
/-! Ancestors. -/
inductive Anc (q : Nat → Nat) (p : Nat) : Nat → Prop
  | refl : Anc q p p
  | up {u : Nat} : 0 < u → Anc q p (q u) → Anc q p u
inductive Dep (q : Nat → Nat) : Nat → Nat → Prop
  | zero : Dep q 0 0
  | succ {u d : Nat} : 0 < u → Dep q (q u) d → Dep q u (d + 1)
structure Shp (n : Nat) (q : Nat → Nat) (nm : Nat → St) : Prop where
  par : ∀ i, 0 < i → i < n → q i < i
  ord : ∀ i, 0 < i → i < n → Anc q (q i) (i - 1)
  sib : ∀ i j, 0 < i → i < j → j < n → q i = q j → ltS (nm i) (nm j) = true
  dep : ∀ i, i < n → ∃ d, d ≤ 8 ∧ Dep q i d
theorem anc_trans {q : Nat → Nat} {a b c : Nat} (h : Anc q a b) (k : Anc q b c) : Anc q a c := by
  induction k with
  | refl => exact h
  | up h0 _ ih => exact .up h0 ih
theorem anc_comp {q : Nat → Nat} {a b c : Nat} (h : Anc q a c) (k : Anc q b c) : Anc q a b ∨ Anc q b a := by
  induction h with
  | refl => exact .inr k
  | @up u h0 h1 ih =>
    cases k with
    | refl => exact .inl (.up h0 h1)
    | up _ k1 => exact ih k1
theorem anc_le {n : Nat} {q : Nat → Nat} (hp : ∀ i, 0 < i → i < n → q i < i) {a b : Nat} (h : Anc q a b) (hb : b < n) : a ≤ b := by
  induction h with
  | refl => exact Nat.le_refl _
  | @up u h0 _ ih => have := hp u h0 hb; have := ih (by omega); omega
theorem anc_anti {n : Nat} {q : Nat → Nat} (hp : ∀ i, 0 < i → i < n → q i < i) {a b : Nat} (h : Anc q a b) (k : Anc q b a) (hb : b < n) : a = b := by
  have h1 := anc_le hp h hb
  have h2 := anc_le hp k (by omega)
  omega
theorem sub_end {n : Nat} {q : Nat → Nat} {nm : Nat → St} (hs : Shp n q nm) {k j : Nat} (hk : k < j) (hj : ¬ Anc q k j) : ∀ m, j ≤ m → m < n → ¬ Anc q k m := by
  intro m hm
  induction m with
  | zero => omega
  | succ m ih =>
    intro hn h
    by_cases e : j = m + 1
    · subst e; exact hj h
    · cases h with
      | refl => omega
      | up h0 h1 =>
        have h2 := hs.ord (m + 1) (by omega) hn
        exact ih (by omega) (by omega) (anc_trans h1 h2)
/-! One more node. -/
def Stop (q : Nat → Nat) (nm : Nat → St) (k : Nat) (x : St) (j : Nat) : Prop := ¬ Anc q k j ∨ (q j = k ∧ ltS x (nm j) = true)
structure InsAt (n : Nat) (q : Nat → Nat) (nm : Nat → St) (k : Nat) (x : St) (p : Nat) : Prop where
  lo : k < p
  hi : p ≤ n
  go : ∀ j, k < j → j < p → ¬ Stop q nm k x j
  st : p < n → Stop q nm k x p
theorem first_from (P : Nat → Prop) (n : Nat) : ∀ d k, n - k = d → k < n + 1 → ∃ p, k ≤ p ∧ p ≤ n ∧ (∀ j, k ≤ j → j < p → ¬ P j) ∧ (p < n → P p) := by
  intro d
  induction d with
  | zero => intro k h hk; exact ⟨k, Nat.le_refl _, by omega, fun j h1 h2 => by omega, fun h => by omega⟩
  | succ d ih =>
    intro k h hk
    by_cases hp : P k
    · exact ⟨k, Nat.le_refl _, by omega, fun j h1 h2 => by omega, fun _ => hp⟩
    · obtain ⟨p, h1, h2, h3, h4⟩ := ih (k + 1) (by omega) (by omega)
      refine ⟨p, by omega, h2, fun j j1 j2 => ?_, h4⟩
      by_cases e : j = k
      · subst e; exact hp
      · exact h3 j (by omega) j2
theorem ins_ex (n : Nat) (q : Nat → Nat) (nm : Nat → St) (k : Nat) (x : St) (hk : k < n) : ∃ p, InsAt n q nm k x p := by
  obtain ⟨p, h1, h2, h3, h4⟩ := first_from (Stop q nm k x) n _ (k + 1) rfl (by omega)
  exact ⟨p, by omega, h2, fun j j1 j2 => h3 j (by omega) j2, h4⟩
def sh (p i : Nat) : Nat := if i < p then i else i + 1
theorem sh_lt {p i : Nat} (h : i < p) : sh p i = i := if_pos h
theorem sh_ge {p i : Nat} (h : p ≤ i) : sh p i = i + 1 := if_neg (by omega)
theorem sh_inj {p i j : Nat} (h : sh p i = sh p j) : i = j := by unfold sh at h; split at h <;> split at h <;> omega
theorem sh_ne (p i : Nat) : sh p i ≠ p := by unfold sh; split <;> omega
theorem sh_mono {p i j : Nat} (h : i < j) : sh p i < sh p j := by unfold sh; split <;> split <;> omega
theorem sh_le (p i : Nat) : i ≤ sh p i ∧ sh p i ≤ i + 1 := by unfold sh; split <;> omega
def qn (p k : Nat) (q : Nat → Nat) (i : Nat) : Nat := if i < p then q i else if i = p then k else sh p (q (i - 1))
def nn (p : Nat) (x : St) (nm : Nat → St) (i : Nat) : St := if i < p then nm i else if i = p then x else nm (i - 1)
theorem qn_sh {n : Nat} {q : Nat → Nat} (hp : ∀ i, 0 < i → i < n → q i < i) (p k : Nat) {i : Nat} (h0 : 0 < i) (hi : i < n) : qn p k q (sh p i) = sh p (q i) := by
  by_cases h : i < p
  · have := hp i h0 hi
    rw [sh_lt h, qn, if_pos h, sh_lt (by omega)]
  · rw [sh_ge (by omega), qn, if_neg (by omega), if_neg (by omega)]; rfl
theorem nn_sh (p : Nat) (x : St) (nm : Nat → St) (i : Nat) : nn p x nm (sh p i) = nm i := by
  by_cases h : i < p
  · rw [sh_lt h, nn, if_pos h]
  · rw [sh_ge (by omega), nn, if_neg (by omega), if_neg (by omega)]; rfl
theorem qn_new (p k : Nat) (q : Nat → Nat) : qn p k q p = k := by unfold qn; simp
theorem nn_new (p : Nat) (x : St) (nm : Nat → St) : nn p x nm p = x := by unfold nn; simp
theorem sh_cases (p i : Nat) : i = p ∨ ∃ j, i = sh p j := by
  rcases Nat.lt_trichotomy i p with h | h | h
  · exact .inr ⟨i, (sh_lt h).symm⟩
  · exact .inl h
  · exact .inr ⟨i - 1, by rw [sh_ge (by omega)]; omega⟩
theorem anc_sh {n : Nat} {q : Nat → Nat} (hp : ∀ i, 0 < i → i < n → q i < i) (p k : Nat) {a b : Nat} (h : Anc q a b) (hb : b < n) (h0p : 0 < p) : Anc (qn p k q) (sh p a) (sh p b) := by
  induction h with
  | refl => exact .refl
  | @up u h0 _ ih =>
    have := hp u h0 hb
    refine .up (by have := (sh_le p u).1; omega) ?_
    rw [qn_sh hp p k h0 hb]
    exact ih (by omega)
theorem dep_sh {n : Nat} {q : Nat → Nat} (hp : ∀ i, 0 < i → i < n → q i < i) (p k : Nat) {b d : Nat} (h : Dep q b d) (hb : b < n) (h0p : 0 < p) : Dep (qn p k q) (sh p b) d := by
  induction h with
  | zero => rw [sh_lt h0p]; exact .zero
  | @succ u d h0 _ ih =>
    have := hp u h0 hb
    refine .succ (by have := (sh_le p u).1; omega) ?_
    rw [qn_sh hp p k h0 hb]
    exact ih (by omega)
theorem ins_low {n : Nat} {q : Nat → Nat} {nm : Nat → St} {k : Nat} {x : St} {p : Nat} (hs : Shp n q nm) (hi : InsAt n q nm k x p) (hx : ∀ i, 0 < i → i < n → q i = k → nm i ≠ x) {j : Nat} (h0 : 0 < j) (hj : j < p) (hq : q j = k) : ltS (nm j) x = true := by
  have hjn : j < n := by have := hi.hi; omega
  have hkj : k < j := by rw [← hq]; exact hs.par j h0 hjn
  have := hi.go j hkj hj
  rcases vlt_tot (nm j) x with h | h | h
  · exact h
  · exact absurd h (hx j h0 hjn hq)
  · exact absurd (.inr ⟨hq, h⟩) this
theorem ins_high {n : Nat} {q : Nat → Nat} {nm : Nat → St} {k : Nat} {x : St} {p : Nat} (hs : Shp n q nm) (hi : InsAt n q nm k x p) {j : Nat} (hj : p ≤ j) (hjn : j < n) (hq : q j = k) : ltS x (nm j) = true := by
  have h0 : 0 < j := by have := hi.lo; omega
  rcases hi.st (by omega) with h | ⟨h1, h2⟩
  · exact absurd (Anc.up h0 (by rw [hq]; exact .refl)) (sub_end hs hi.lo h j hj hjn)
  · by_cases e : j = p
    · subst e; exact h2
    · exact vlt_trans h2 (hs.sib p j (by have := hi.lo; omega) (by omega) hjn (by rw [h1, hq]))
theorem shp_ins {n : Nat} {q : Nat → Nat} {nm : Nat → St} {k : Nat} {x : St} {p : Nat} (hs : Shp n q nm) (hk : k < n) (hi : InsAt n q nm k x p) (hx : ∀ i, 0 < i → i < n → q i = k → nm i ≠ x) (hd : ∃ d, d ≤ 7 ∧ Dep q k d) : Shp (n + 1) (qn p k q) (nn p x nm) := by
  have lo := hi.lo
  have hi' := hi.hi
  have h0p : 0 < p := by omega
  have hpar : ∀ i, 0 < i → i < n + 1 → qn p k q i < i := fun i h0 hn => by
    rcases sh_cases p i with e | ⟨j, e⟩
    · subst e; rw [qn_new]; exact lo
    · subst e
      have := sh_le p j
      have hj : j < n := by unfold sh at hn; split at hn <;> omega
      have hj0 : 0 < j := by
        by_cases e : j = 0
        · subst e; rw [sh_lt h0p] at h0; omega
        · omega
      rw [qn_sh hs.par p k hj0 hj]
      exact sh_mono (hs.par j hj0 hj)
  refine ⟨hpar, fun i h0 hn => ?_, fun i j h0 hij hjn he => ?_, fun i hin => ?_⟩
  · by_cases h1 : i < p
    · have h2 := anc_sh hs.par p k (hs.ord i h0 (by omega)) (by omega) h0p
      have h3 := hs.par i h0 (by omega)
      rw [sh_lt (by omega), sh_lt (by omega)] at h2
      unfold qn at h2 ⊢
      rw [if_pos h1]
      exact h2
    · by_cases h2 : i = p
      · subst h2
        rw [qn_new]
        have ha : Anc q k (i - 1) := by
          by_cases e : i - 1 = k
          · rw [e]; exact .refl
          · have := hi.go (i - 1) (by omega) (by omega)
            unfold Stop at this
            exact Classical.byContradiction fun h => this (.inl h)
        have h3 := anc_sh hs.par i k ha (by omega) h0p
        rwa [sh_lt (by omega), sh_lt (by omega)] at h3
      · by_cases h3 : i = p + 1
        · subst h3
          have hpn : p < n := by omega
          have e : qn p k q (p + 1) = q p := by
            have h5 := hs.par p h0p hpn
            rw [show p + 1 = sh p p from (sh_ge (Nat.le_refl _)).symm, qn_sh hs.par p k h0p hpn, sh_lt h5]
          rw [e, Nat.add_sub_cancel]
          refine .up h0p ?_
          rw [qn_new]
          have hk1 : Anc q k (p - 1) := by
            by_cases e : p - 1 = k
            · rw [e]; exact .refl
            · have := hi.go (p - 1) (by omega) (by omega)
              unfold Stop at this
              exact Classical.byContradiction fun h => this (.inl h)
          have h5 := hs.par p h0p hpn
          have hA : Anc q (q p) k := by
            rcases hi.st hpn with h | ⟨h, _⟩
            · rcases anc_comp (hs.ord p h0p hpn) hk1 with h6 | h6
              · exact h6
              · exact absurd (Anc.up h0p h6) h
            · rw [h]; exact .refl
          have h7 := anc_sh hs.par p k hA hk h0p
          rwa [sh_lt h5, sh_lt lo] at h7
        · obtain ⟨j, rfl⟩ : ∃ j, i = j + 2 := ⟨i - 2, by omega⟩
          have h4 := anc_sh hs.par p k (hs.ord (j + 1) (by omega) (by omega)) (by omega) h0p
          have e : j + 2 = sh p (j + 1) := (sh_ge (by omega)).symm
          rw [e, qn_sh hs.par p k (by omega) (by omega)]
          have e2 : sh p (j + 1) - 1 = sh p (j + 1 - 1) := by
            rw [sh_ge (show p ≤ j + 1 by omega), Nat.add_sub_cancel, Nat.add_sub_cancel, sh_ge (by omega)]
          rw [e2]
          exact h4
  · rcases sh_cases p i with e | ⟨a, e⟩
    · subst e
      rcases sh_cases i j with e | ⟨b, e⟩
      · omega
      · subst e
        rw [qn_new] at he
        have hb : b < n := by unfold sh at hjn; split at hjn <;> omega
        have hib : i ≤ b := by unfold sh at hij; split at hij <;> omega
        rw [qn_sh hs.par i k (by omega) hb] at he
        have hq : q b = k := by
          have e3 : sh i (q b) = sh i k := by rw [sh_lt lo]; exact he.symm
          exact sh_inj e3
        rw [nn_new, nn_sh]
        exact ins_high hs hi hib hb hq
    · subst e
      have ha0 : 0 < a := by
        by_cases e : a = 0
        · subst e; rw [sh_lt h0p] at h0; omega
        · omega
      rcases sh_cases p j with e | ⟨b, e⟩
      · subst e
        have haj : a < j := by unfold sh at hij; split at hij <;> omega
        rw [qn_new, qn_sh hs.par j k ha0 (by omega)] at he
        have hq : q a = k := by
          have e3 : sh j (q a) = sh j k := by rw [sh_lt lo]; exact he
          exact sh_inj e3
        rw [nn_new, nn_sh]
        exact ins_low hs hi hx ha0 haj hq
      · subst e
        have hab : a < b := by
          rcases Nat.lt_trichotomy a b with h | h | h
          · exact h
          · subst h; omega
          · have := sh_mono (p := p) h; omega
        have hb : b < n := by unfold sh at hjn; split at hjn <;> omega
        rw [qn_sh hs.par p k ha0 (by omega), qn_sh hs.par p k (by omega) hb] at he
        rw [nn_sh, nn_sh]
        exact hs.sib a b ha0 hab hb (sh_inj he)
  · rcases sh_cases p i with e | ⟨a, e⟩
    · subst e
      obtain ⟨d, hd1, hd2⟩ := hd
      refine ⟨d + 1, by omega, .succ h0p ?_⟩
      rw [qn_new]
      have := dep_sh hs.par i k hd2 hk h0p
      rwa [sh_lt lo] at this
    · subst e
      have ha : a < n := by unfold sh at hin; split at hin <;> omega
      obtain ⟨d, hd1, hd2⟩ := hs.dep a ha
      exact ⟨d, hd1, dep_sh hs.par p k hd2 ha h0p⟩
end Go.Proofs.YtgembejpiecfcaaGreatDoor
