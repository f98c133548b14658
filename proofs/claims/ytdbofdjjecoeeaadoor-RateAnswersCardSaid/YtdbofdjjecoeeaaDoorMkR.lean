/- Worlds in which a tape has moved on and memory has grown (for the laws on rates). -/
import Derived.Test.YtdbofdjjecoeeaaDoorTape
set_option linter.unusedVariables false
set_option linter.unusedSimpArgs false
namespace Go.Proofs.YtdbofdjjecoeeaaDoor
open Go.RowKit
open Classical

def Tp (w : World) (b len : Nat) : Prop := ∃ p, Tape w b p len
/-- The tape in block b has moved, and memory has grown. -/
def Mv (b len : Nat) (w w' : World) : Prop := ∃ p : Int, 0 ≤ p ∧ p ≤ (len : Int) ∧ Gr (w.setCell ⟨b, 1, none⟩ (.int .i64 p)) w'
theorem size_set (w : World) (a : Addr) (v : Value) : (w.setCell a v).heap.size = w.heap.size := by simp [World.setCell]
theorem Tp.has {w : World} {b len : Nat} (h : Tp w b len) : b < w.heap.size := h.elim fun _ h => h.has
theorem Mv.tp {w w' : World} {b len : Nat} (h : Mv b len w w') (ht : Tp w b len) : Tp w' b len := by
  obtain ⟨p, h0, h1, hg⟩ := h
  obtain ⟨q, ht⟩ := ht
  exact ⟨p, (ht.set h0 h1).gr hg⟩
theorem Tp.gr {w w' : World} {b len : Nat} (h : Tp w b len) (hg : Gr w w') : Tp w' b len := h.elim fun p h => ⟨p, h.gr hg⟩
theorem Mv.of_gr {w w' : World} {b len : Nat} (ht : Tp w b len) (hg : Gr w w') : Mv b len w w' := by
  obtain ⟨p, ht⟩ := ht
  obtain ⟨ao, cap, c0, c1, c2, c3, c4, c5, c6⟩ := ht
  exact ⟨p, c3, c4, by rw [setCell_id c1]; exact hg⟩
theorem Mv.refl {w : World} {b len : Nat} (ht : Tp w b len) : Mv b len w w := .of_gr ht (Gr.refl w)
theorem gr_setCell {w w' : World} {b : Nat} (hg : Gr w w') (hb : b < w.heap.size) (v : Value) : Gr (w.setCell ⟨b, 1, none⟩ v) (w'.setCell ⟨b, 1, none⟩ v) := by
  have h := hg.below
  refine .of_below ⟨h.os, h.tape, h.output, by rw [size_set, size_set]; exact h.size, fun k hk => ?_⟩
  rw [size_set] at hk
  have := h.block k hk
  simp only [World.setCell, Array.getElem?_modify, this]
theorem Mv.trans {w w1 w2 : World} {b len : Nat} (h : Mv b len w w1) (hb : b < w.heap.size) (k : Mv b len w1 w2) : Mv b len w w2 := by
  obtain ⟨p, h0, h1, hg⟩ := h
  obtain ⟨q, k0, k1, kg⟩ := k
  refine ⟨q, k0, k1, ?_⟩
  have := gr_setCell hg (by rw [size_set]; exact hb) (.int .i64 q)
  rw [setCell_setCell] at this
  exact this.trans kg
theorem Mv.gr {w w1 w2 : World} {b len : Nat} (h : Mv b len w w1) (k : Gr w1 w2) : Mv b len w w2 := by
  obtain ⟨p, h0, h1, hg⟩ := h
  exact ⟨p, h0, h1, hg.trans k⟩
theorem Mv.alloc {w w1 : World} {b len : Nat} (o : Obj) (h : Mv b len w w1) : Mv b len w (w1.alloc o) := h.gr ((Gr.refl _).alloc o)
theorem Mv.setc {w w1 : World} {b len B o : Nat} {v : Value} (h : Mv b len w w1) (hB : w.heap.size ≤ B) : Mv b len w (w1.setCell ⟨B, o, none⟩ v) := by
  obtain ⟨p, h0, h1, hg⟩ := h
  exact ⟨p, h0, h1, hg.setCell (a := ⟨B, o, none⟩) (by rw [size_set]; exact hB) v⟩
theorem Mv.size {w w1 : World} {b len : Nat} (h : Mv b len w w1) : w.heap.size ≤ w1.heap.size := by
  obtain ⟨p, h0, h1, hg⟩ := h
  have := hg.size; rwa [size_set] at this
theorem Mv.block {w w1 : World} {b len k : Nat} (h : Mv b len w w1) (hk : k < w.heap.size) (hb : k ≠ b) : w1.heap[k]? = w.heap[k]? := by
  obtain ⟨p, h0, h1, hg⟩ := h
  rw [hg.below.block k (by rw [size_set]; exact hk)]
  simp [World.setCell, Array.getElem?_modify, Ne.symm hb]
theorem Mv.cell {w w1 : World} {b len k o : Nat} {s : Option Nat} {v : Value} (h : Mv b len w w1) (hb : k ≠ b) (c : w.cell? ⟨k, o, s⟩ = some v) : w1.cell? ⟨k, o, s⟩ = some v :=
  (World.cell?_of_block (w := w) (h.block (has_of_cell c) hb)).trans c
theorem Mv.row {w w1 : World} {b len B T : Nat} {vs : List Value} (h : Mv b len w w1) (r : Row w B T vs) (hb : B ≠ b) : Row w1 B T vs := (h.block r.has hb).trans r
/-- A number is read. -/
def ReadsM (b len : Nat) (w : World) (S : Int → Prop) (e : Ending) (w' : World) : Prop := ∃ x, e = .returned (.int .i64 x) ∧ S x ∧ Mv b len w w'
theorem Reads.m {b len : Nat} {w : World} {S : Int → Prop} {e : Ending} {w' : World} (h : Reads w b len S e w') : ReadsM b len w S e w' := by
  obtain ⟨x, p, e, hs, h0, h1, hg⟩ := h
  exact ⟨x, e, hs, p, h0, h1, hg⟩
theorem nM_any (w : World) (b len : Nat) (n : Int) (h : Tp w b len) (hn : 1 ≤ n) (hn1 : n ≤ 9223372036854775807) :
    Calls Tryd.prog 24 #[.pointer (some ⟨b, 0, none⟩), .int .i64 n] w (ReadsM b len w (InTo 0 (n - 1))) :=
  h.elim fun p h => (n_any w b len p n h hn hn1).mono fun _ _ q => q.m
set_option maxHeartbeats 400000 in
theorem rangeM_any (w : World) (b len : Nat) (lo hi : Int) (h : Tp w b len) (hl : -1000 ≤ lo) (hh : lo ≤ hi) (hh1 : hi ≤ 1000000) :
    Calls Tryd.prog 15 #[.pointer (some ⟨b, 0, none⟩), .int .i64 lo, .int .i64 hi] w (ReadsM b len w (InTo lo hi)) := by
  have H := Lib.hid h
  clear h
  go_enter Tryd.func15, Tryd.ntmps15
  go_wp2_with fail
  refine (nM_any _ b len _ H.out (by omega) (by omega)).mono ?_
  rintro e w' ⟨x, rfl, hx, hm⟩
  have hx0 := hx.1
  have hx1 := hx.2
  have M := Lib.hid hm
  clear hm hx
  go_wp2_with fail
  go_ret
  exact ⟨lo + x, rfl, ⟨by omega, by omega⟩, M.out⟩
theorem Mv.out {w W w' : World} {b len : Nat} (hg : Gr w W) (h : Mv b len W w') (hb : w.heap.size ≤ b) : Gr w w' := by
  obtain ⟨p, h0, h1, g⟩ := h
  exact (hg.setc hb).trans g
end Go.Proofs.YtdbofdjjecoeeaaDoor
