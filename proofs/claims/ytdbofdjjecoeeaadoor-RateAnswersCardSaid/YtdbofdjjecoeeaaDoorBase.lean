/- Worlds that have only grown: 'xt w O d' is the world w with the blocks O behind its own and the count of draws at d. Every world that is as w was below w's own size is such a one. No conditions. -/
import Derived.Test.YtdbofdjjecoeeaaDoorRows
import Derived.WalkKit
import Derived.WalkSpells
import Derived.WalkLawsBesides
import Derived.Deep.QuietTactic
import Derived.BigQuiet
import Derived.Lib.Hide
import Derived.StillTailTactics
import Derived.Deep.RegionHeld3
import Derived.Deep.DrawnRows
set_option linter.unusedVariables false
set_option linter.unusedSimpArgs false
namespace Go.Proofs.YtdbofdjjecoeeaaDoor
open Go.RowKit

def xt (w : World) (O : Array Obj) (d : Nat) : World := { w with heap := w.heap ++ O, drawn := d }

@[simp, go_sem] theorem heap_size_xt (w : World) (O : Array Obj) (d : Nat) : (xt w O d).heap.size = w.heap.size + O.size := by
  simp [xt]
@[simp, go_sem] theorem tape_xt (w : World) (O : Array Obj) (d : Nat) : (xt w O d).tape = w.tape := rfl
theorem block_xt (w : World) (O : Array Obj) (d k : Nat) (h : k < w.heap.size) : (xt w O d).heap[k]? = w.heap[k]? := by
  simp only [xt]; rw [Array.getElem?_append_left h]
/-- Block b is there. -/
def Has (w : World) (b : Nat) : Prop := b < w.heap.size
@[simp, go_sem] theorem has_alloc (w : World) (o : Obj) (b : Nat) : Has (w.alloc o) b = (b = w.heap.size ∨ Has w b) := by
  simp only [Has, World.size_alloc, eq_iff_iff]; omega
@[simp, go_sem] theorem has_drew (w : World) (b : Nat) : Has w.drew b = Has w b := rfl
@[simp, go_sem] theorem has_drewN (w : World) (n b : Nat) : Has (w.drewN n) b = Has w b := rfl
@[simp, go_sem] theorem has_setCell (w : World) (a : Addr) (v : Value) (b : Nat) : Has (w.setCell a v) b = Has w b := by
  simp [Has, World.setCell]
@[simp, go_sem] theorem has_xt (w : World) (O : Array Obj) (d b : Nat) : Has (xt w O d) b = (Has w b ∨ (w.heap.size ≤ b ∧ b < w.heap.size + O.size)) := by
  simp only [Has, heap_size_xt, eq_iff_iff]; omega
theorem has_of_cell {w : World} {b o : Nat} {s : Option Nat} {v : Value} (h : w.cell? ⟨b, o, s⟩ = some v) : Has w b := by
  unfold Has
  rcases Nat.lt_or_ge b w.heap.size with h1 | h1
  · exact h1
  · simp [World.cell?, Array.getElem?_eq_none h1] at h
@[simp, go_sem] theorem cell?_xt {w : World} {O : Array Obj} {d b o : Nat} {s : Option Nat} (h : Has w b) : (xt w O d).cell? ⟨b, o, s⟩ = w.cell? ⟨b, o, s⟩ :=
  World.cell?_of_block (w := w) (block_xt w O d b h)
@[simp, go_sem] theorem frozen?_xt {w : World} {O : Array Obj} {d b o : Nat} {s : Option Nat} (h : Has w b) : (xt w O d).frozen? ⟨b, o, s⟩ = w.frozen? ⟨b, o, s⟩ :=
  World.frozen?_of_block (w := w) (block_xt w O d b h)
@[simp, go_sem] theorem cell?_alloc_has {w : World} {x : Obj} {b o : Nat} {s : Option Nat} (h : Has w b) : (w.alloc x).cell? ⟨b, o, s⟩ = w.cell? ⟨b, o, s⟩ :=
  World.cell?_alloc_lt w x ⟨b, o, s⟩ h
@[simp, go_sem] theorem frozen?_alloc_has {w : World} {x : Obj} {b o : Nat} {s : Option Nat} (h : Has w b) : (w.alloc x).frozen? ⟨b, o, s⟩ = w.frozen? ⟨b, o, s⟩ :=
  World.frozen?_of_block (w := w) (Below.heap_alloc w x b h)
@[simp, go_sem] theorem xt_xt (w : World) (O O' : Array Obj) (d d' : Nat) : xt (xt w O d) O' d' = xt w (O ++ O') d' := by
  simp [xt]
@[simp, go_sem] theorem drew_xt (w : World) (O : Array Obj) (d : Nat) : (xt w O d).drew = xt w O (d + 1) := rfl
@[simp, go_sem] theorem xt_drew (w : World) (O : Array Obj) (d : Nat) : xt w.drew O d = xt w O d := rfl
@[simp, go_sem] theorem xt_drewN (w : World) (O : Array Obj) (n d : Nat) : xt (w.drewN n) O d = xt w O d := rfl
theorem setCell_xt (w : World) (O : Array Obj) (d : Nat) (a : Addr) (v : Value) (h : a.block < w.heap.size) : (xt w O d).setCell a v = xt (w.setCell a v) O d := by
  unfold xt World.setCell
  congr 1
  apply Array.ext_getElem?
  intro i
  simp only [Array.getElem?_modify, Array.getElem?_append, Array.size_modify]
  by_cases e : a.block = i
  · subst e; simp [h]
  · simp [e]
@[simp, go_sem] theorem setCell_xt_has {w : World} {O : Array Obj} {d b o : Nat} {s : Option Nat} {v : Value} (h : Has w b) : (xt w O d).setCell ⟨b, o, s⟩ v = xt (w.setCell ⟨b, o, s⟩ v) O d :=
  setCell_xt w O d ⟨b, o, s⟩ v h
@[simp, go_sem] theorem setCell_alloc_has {w : World} {x : Obj} {b o : Nat} {v : Value} (h : Has w b) : (w.alloc x).setCell ⟨b, o, none⟩ v = (w.setCell ⟨b, o, none⟩ v).alloc x :=
  World.setCell_alloc_past x b o v h
theorem below_xt (w : World) (O : Array Obj) (d : Nat) : Below w.heap.size w (xt w O d) :=
  ⟨rfl, rfl, rfl, by simp, fun k hk => block_xt w O d k hk⟩
theorem below_of_xt {w w' : World} (h : ∃ O d, w' = xt w O d) : Below w.heap.size w w' := by
  obtain ⟨O, d, rfl⟩ := h; exact below_xt w O d
theorem xt_of_below {w w' : World} (h : Below w.heap.size w w') : ∃ O d, w' = xt w O d := by
  refine ⟨w'.heap.extract w.heap.size w'.heap.size, w'.drawn, ?_⟩
  obtain ⟨h1, h2, h3, h4, h5⟩ := h
  cases w' with
  | mk heap tape drawn os output =>
  simp only at h1 h2 h3 h4 h5
  subst h1 h2 h3
  simp only [xt, World.mk.injEq, and_true]
  apply Array.ext_getElem?
  intro i
  by_cases hi : i < w.heap.size
  · rw [h5 i hi, Array.getElem?_append_left hi]
  · rw [Array.getElem?_append_right (by omega), Array.getElem?_extract]
    by_cases h' : i < heap.size
    · rw [if_pos (by omega)]; congr 1; omega
    · rw [if_neg (by omega), Array.getElem?_eq_none (by omega)]
/-- The class of worlds for a region whose calls make memory of their own. -/
theorem xt_self (w : World) : w = xt w #[] w.drawn := by simp [xt]
theorem grows_refl (w : World) : ∃ O d, w = xt w O d := ⟨_, _, xt_self w⟩
theorem grows_drew (w : World) : ∃ O d, w.drew = xt w O d := ⟨#[], w.drawn + 1, by show ({ w with drawn := w.drawn + 1 } : World) = _; simp [xt]⟩
theorem grows_trans {w w' w'' : World} (h : ∃ O d, w' = xt w O d) (k : ∃ O d, w'' = xt w' O d) : ∃ O d, w'' = xt w O d := by
  obtain ⟨O, d, rfl⟩ := h; obtain ⟨O', d', rfl⟩ := k; exact ⟨O ++ O', d', xt_xt _ _ _ _ _⟩
/-- The class of the grown worlds, by one letter. -/
structure More where
  o : Array Obj
  d : Nat
instance : Nonempty More := ⟨⟨#[], 0⟩⟩
theorem grown_pair {w w' : World} (h : ∃ x : More, w' = xt w x.o x.d) : ∃ O d, w' = xt w O d := let ⟨x, hx⟩ := h; ⟨x.o, x.d, hx⟩
theorem wp_region_grows {P : Program} {id : Nat} {Q : Exit → Act → World → Prop} {a : Act} {w : World} {l : List Oper} (hm : P.follows .mixedOrders = true) (hB : Region.lexB .any l.toArray = true)
    (h : wpQuiet P l.toArray (fun w' => ∃ x : More, w' = xt w x.o x.d) (fun a' => ∀ w', (∃ x : More, w' = xt w x.o x.d) → Q .normal a' w') l a) : (Code.region id l.toArray true).wp P Q a w :=
  wp_region_quiet (C := fun w' => ∃ x : More, w' = xt w x.o x.d) hm hB ⟨⟨#[], w.drawn + 1⟩, by simp [xt]⟩ h
theorem wp_region_growsx {P : Program} {id : Nat} {Q : Exit → Act → World → Prop} {a : Act} {w : World} {O : Array Obj} {d : Nat} {l : List Oper} (hm : P.follows .mixedOrders = true) (hB : Region.lexB .any l.toArray = true)
    (h : wpQuiet P l.toArray (fun w' => ∃ x : More, w' = xt w x.o x.d) (fun a' => ∀ w', (∃ x : More, w' = xt w x.o x.d) → Q .normal a' w') l a) : (Code.region id l.toArray true).wp P Q a (xt w O d) :=
  wp_region_quiet (C := fun w' => ∃ x : More, w' = xt w x.o x.d) hm hB ⟨⟨O, d + 1⟩, rfl⟩ h
theorem wp_region_tail {P : Program} {id : Nat} {Q : Exit → Act → World → Prop} {a : Act} {w : World} {l : List Oper} (n : Nat) (hm : P.follows .mixedOrders = true) (hB : Region.lexTailB .any l.toArray n = true)
    (h : wpStill P l.toArray w.drew (fun a' => wpList P l.toArray Q (l.drop n) a' w.drew) (l.take n) a) : (Code.region id l.toArray true).wp P Q a w :=
  wp_region_still_tail n hm hB h
/-- w' is w grown: every block of w is as it was. -/
def Gr (w w' : World) : Prop := ∃ O d, w' = xt w O d
theorem Gr.below {w w' : World} (h : Gr w w') : Below w.heap.size w w' := below_of_xt h
theorem Gr.of_below {w w' : World} (h : Below w.heap.size w w') : Gr w w' := xt_of_below h
theorem Gr.refl (w : World) : Gr w w := grows_refl w
theorem Gr.trans {w w' w'' : World} (h : Gr w w') (k : Gr w' w'') : Gr w w'' := grows_trans h k
theorem Gr.xt {w w' : World} (O : Array Obj) (d : Nat) (h : Gr w w') : Gr w (xt w' O d) := grows_trans h ⟨O, d, rfl⟩
theorem Gr.drew {w w' : World} (h : Gr w w') : Gr w w'.drew := .of_below h.below.drew
theorem Gr.drewN {w w' : World} (n : Nat) (h : Gr w w') : Gr w (w'.drewN n) := by
  obtain ⟨O, d, rfl⟩ := h; exact ⟨O, d + n, rfl⟩
theorem Gr.size {w w' : World} (h : Gr w w') : w.heap.size ≤ w'.heap.size := h.below.size
theorem Gr.alloc {w w' : World} (o : Obj) (h : Gr w w') : Gr w (w'.alloc o) := .of_below (h.below.alloc h.size o)
theorem Gr.setCell {w w' : World} {a : Addr} (hb : w.heap.size ≤ a.block) (v : Value) (h : Gr w w') : Gr w (w'.setCell a v) := .of_below (h.below.setCell hb v)
theorem ret_bool {a b : Bool} (h : a = b) : Ending.returned (.bool a) = .returned (.bool b) := by rw [h]
theorem ret_int {k : IntKind} {a b : Int} (h : a = b) : Ending.returned (.int k a) = .returned (.int k b) := by rw [h]
/-- The call returns v, and the world has only grown. -/
def Grows (w : World) (v : Value) (e : Ending) (w' : World) : Prop := e = .returned v ∧ Gr w w'
theorem calls_grows {P : Program} {f : FuncId} {args : Array Value} {w : World} {O : Array Obj} {d : Nat} {v : Value}
    (h : Calls P f args (xt w O d) (Grows (xt w O d) v)) : Calls P f args (xt w O d) fun e w'' => e = .returned v ∧ ∃ x : More, w'' = xt w x.o x.d :=
  h.mono fun _ _ ⟨he, O', d', hw⟩ => ⟨he, ⟨O ++ O', d'⟩, by rw [hw, xt_xt]⟩
theorem calls_same {P : Program} {f : FuncId} {args : Array Value} {w : World} {O : Array Obj} {d : Nat} {v : Value}
    (h : Calls P f args (xt w O d) fun e w' => e = .returned v ∧ xt w O d = w') : Calls P f args (xt w O d) fun e w'' => e = .returned v ∧ ∃ x : More, w'' = xt w x.o x.d :=
  h.mono fun _ _ ⟨he, hw⟩ => ⟨he, ⟨O, d⟩, hw.symm⟩
end Go.Proofs.YtdbofdjjecoeeaaDoor
