/- Lists in memory: what a slice reads as, and that this stays while memory only grows. No conditions. -/
import Derived.Test.YtdbofdjjecoeeaaDoorTail
import Derived.Deep.OwnRows
set_option linter.unusedVariables false
set_option linter.unusedSimpArgs false
namespace Go.Proofs.YtdbofdjjecoeeaaDoor
open Go.RowKit

def Wide (x : Int) : Prop := -9223372036854775808 ≤ x ∧ x ≤ 9223372036854775807
/-- A length that a slice can have. -/
def Fit (n : Nat) : Prop := n ≤ 140737488351232

/-- The elements of a slice at the address ao: element k takes n cells and is what R says. -/
def SlOf {α : Type} (n : Nat) (R : World → Nat → Nat → α → Prop) (w : World) (ao : Option Addr) (xs : List α) : Prop :=
  ∀ k (h : k < xs.length), ∃ b o, ao = some ⟨b, o, none⟩ ∧ R w b (o + k * n) xs[k]
def Mono {α : Type} (R : World → Nat → Nat → α → Prop) : Prop := ∀ w w' b o x, Gr w w' → R w b o x → R w' b o x
theorem SlOf.gr {α : Type} {n : Nat} {R : World → Nat → Nat → α → Prop} (hR : Mono R) {w w' : World} {ao : Option Addr} {xs : List α} (h : SlOf n R w ao xs) (hg : Gr w w') : SlOf n R w' ao xs := by
  intro k hk
  obtain ⟨b, o, h1, h2⟩ := h k hk
  exact ⟨b, o, h1, hR _ _ _ _ _ hg h2⟩
theorem SlOf.nil {α : Type} (n : Nat) (R : World → Nat → Nat → α → Prop) (w : World) (ao : Option Addr) : SlOf n R w ao [] := fun k h => by simp at h
theorem SlOf.one {α : Type} {R : World → Nat → Nat → α → Prop} {w : World} {ao : Option Addr} {xs : List α} (h : SlOf 1 R w ao xs) (k : Nat) (hk : k < xs.length) : ∃ b o, ao = some ⟨b, o, none⟩ ∧ R w b (o + k) xs[k] := by
  have := h k hk; rwa [Nat.mul_one] at this
theorem SlOf.all {α : Type} {n : Nat} {R : World → Nat → Nat → α → Prop} {w : World} {ao : Option Addr} {xs : List α} (h : SlOf n R w ao xs) (h0 : 0 < xs.length) : ∃ b o, ao = some ⟨b, o, none⟩ ∧ ∀ k (hk : k < xs.length), R w b (o + k * n) xs[k] := by
  obtain ⟨b, o, e, _⟩ := h 0 h0
  refine ⟨b, o, e, fun k hk => ?_⟩
  obtain ⟨b', o', e', h'⟩ := h k hk
  rw [e] at e'
  cases e'
  exact h'
theorem SlOf.all1 {α : Type} {R : World → Nat → Nat → α → Prop} {w : World} {ao : Option Addr} {xs : List α} (h : SlOf 1 R w ao xs) (h0 : 0 < xs.length) : ∃ b o, ao = some ⟨b, o, none⟩ ∧ ∀ k (hk : k < xs.length), R w b (o + k) xs[k] := by
  obtain ⟨b, o, e, h'⟩ := h.all h0
  exact ⟨b, o, e, fun k hk => by have := h' k hk; rwa [Nat.mul_one] at this⟩
theorem cell_gr {w w' : World} {b o : Nat} {s : Option Nat} {v : Value} (hg : Gr w w') (h : w.cell? ⟨b, o, s⟩ = some v) : w'.cell? ⟨b, o, s⟩ = some v := by
  obtain ⟨O, d, rfl⟩ := hg
  rw [cell?_xt (has_of_cell h)]; exact h

def RI (w : World) (b o : Nat) (x : Int) : Prop := w.cell? ⟨b, o, none⟩ = some (.int .i64 x) ∧ Wide x
def RB (w : World) (b o : Nat) (x : Bool) : Prop := w.cell? ⟨b, o, none⟩ = some (.bool x)
def RSl {α : Type} (n : Nat) (R : World → Nat → Nat → α → Prop) (w : World) (b o : Nat) (xs : List α) : Prop :=
  ∃ ao cap, w.cell? ⟨b, o, none⟩ = some (.slice ao xs.length cap) ∧ xs.length ≤ cap ∧ Fit xs.length ∧ SlOf n R w ao xs
theorem RI.mono : Mono RI := fun _ _ _ _ _ hg h => ⟨cell_gr hg h.1, h.2⟩
theorem RB.mono : Mono RB := fun _ _ _ _ _ hg h => cell_gr hg h
theorem RSl.mono {α : Type} {n : Nat} {R : World → Nat → Nat → α → Prop} (hR : Mono R) : Mono (RSl n R) := fun _ _ _ _ _ hg ⟨ao, cap, h1, h2, h3, h4⟩ =>
  ⟨ao, cap, cell_gr hg h1, h2, h3, h4.gr hR hg⟩
theorem SlOf.giI {w w' : World} {ao : Option Addr} {xs : List Int} (h : SlOf 1 RI w ao xs) (hg : Gr w w') : SlOf 1 RI w' ao xs := h.gr RI.mono hg
theorem SlOf.giB {w w' : World} {ao : Option Addr} {xs : List Bool} (h : SlOf 1 RB w ao xs) (hg : Gr w w') : SlOf 1 RB w' ao xs := h.gr RB.mono hg
/-- The call returns a slice that reads as xs, and the world has only grown. -/
def GivesSl {α : Type} (n : Nat) (R : World → Nat → Nat → α → Prop) (w : World) (xs : List α) (e : Ending) (w' : World) : Prop :=
  ∃ ao cap, e = .returned (.slice ao xs.length cap) ∧ xs.length ≤ cap ∧ Fit xs.length ∧ SlOf n R w' ao xs ∧ Gr w w'

/-! Rows of the call's own -/
/-- Block B is a row of the cells vs, none of them frozen. -/
def Row (w : World) (B T : Nat) (vs : List Value) : Prop := w.heap[B]? = some (.cells vs.toArray T (0, 0))
theorem Row.cell {w : World} {B T : Nat} {vs : List Value} (h : Row w B T vs) (k : Nat) (hk : k < vs.length) : w.cell? ⟨B, k, none⟩ = some vs[k] := by
  unfold Row at h
  simp [World.cell?, h, hk]
theorem Row.free {w : World} {B T : Nat} {vs : List Value} (h : Row w B T vs) (k : Nat) : w.frozen? ⟨B, k, none⟩ = false := by
  unfold Row at h
  simp [World.frozen?, h]
theorem Row.has {w : World} {B T : Nat} {vs : List Value} (h : Row w B T vs) : Has w B := by
  unfold Row at h
  exact (Array.getElem?_eq_some_iff.1 h).1
theorem Row.set {w : World} {B T : Nat} {vs : List Value} (h : Row w B T vs) (k : Nat) (v : Value) : Row (w.setCell ⟨B, k, none⟩ v) B T (vs.set k v) := by
  unfold Row at *
  simp [World.setCell, Array.getElem?_modify, h]
theorem Row.other {w : World} {B T : Nat} {vs : List Value} (h : Row w B T vs) (a : Addr) (v : Value) (ha : a.block ≠ B) : Row (w.setCell a v) B T vs := by
  unfold Row at *
  simp [World.setCell, Array.getElem?_modify, ha, h]
theorem Row.oth {w : World} {B T b o : Nat} {vs : List Value} {v : Value} (h : Row w B T vs) (ha : b ≠ B) : Row (w.setCell ⟨b, o, none⟩ v) B T vs := h.other _ _ ha
theorem Gr.setc {w w' : World} {b o : Nat} {v : Value} (hb : w.heap.size ≤ b) (h : Gr w w') : Gr w (w'.setCell ⟨b, o, none⟩ v) := h.setCell hb v
theorem Row.gr {w w' : World} {B T : Nat} {vs : List Value} (h : Row w B T vs) (hg : Gr w w') : Row w' B T vs := by
  have hb := h.has
  unfold Row at *
  obtain ⟨O, d, rfl⟩ := hg
  rw [block_xt w O d B hb]; exact h
theorem Row.alloc {w : World} {B T : Nat} {vs : List Value} (o : Obj) (h : Row w B T vs) : Row (w.alloc o) B T vs := h.gr ((Gr.refl w).alloc o)
theorem Row.xt {w : World} {B T : Nat} {vs : List Value} (O : Array Obj) (d : Nat) (h : Row w B T vs) : Row (xt w O d) B T vs := h.gr ((Gr.refl w).xt O d)
theorem Row.drew {w : World} {B T : Nat} {vs : List Value} (h : Row w B T vs) : Row w.drew B T vs := h.gr (Gr.refl w).drew
theorem Row.drewN {w : World} {B T : Nat} {vs : List Value} (n : Nat) (h : Row w B T vs) : Row (w.drewN n) B T vs := h.gr ((Gr.refl w).drewN n)
theorem Row.new (w : World) (arr : Array Value) (T : Nat) : Row (w.alloc (.cells arr T)) w.heap.size T arr.toList := by
  unfold Row
  rw [Go.Deep.blk_alloc_new w _]
end Go.Proofs.YtdbofdjjecoeeaaDoor
