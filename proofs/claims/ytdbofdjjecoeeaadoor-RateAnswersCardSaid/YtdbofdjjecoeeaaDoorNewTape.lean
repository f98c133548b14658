/- A tape is made of the numbers that came in. -/
import Derived.Test.YtdbofdjjecoeeaaDoorTape
import Derived.OpenShut
set_option linter.unusedVariables false
set_option linter.unusedSimpArgs false
namespace Go.Proofs.YtdbofdjjecoeeaaDoor
open Go.RowKit

/-- A list of numbers that came in: nil, or a row of cap cells that hold the numbers zs. -/
def RowIn (w : World) (a : Option Addr) (len cap : Nat) (zs : List Int) : Prop :=
  (a = none ∧ len = 0 ∧ cap = 0 ∧ zs = []) ∨
  ∃ x, a = some x ∧ len ≤ cap ∧ cap ≤ maxLen ∧ zs.length = cap ∧ (∀ i, i < zs.length → w.cell? (x.add i) = some (.int .i64 (zs.getD i 0))) ∧ ∀ n ∈ zs, (Lit.int .i64 n).wf = true
theorem addr_of_cell {w : World} {x : Addr} {v : Value} (h : w.cell? x = some v) : x = ⟨x.block, x.off, none⟩ := by
  cases x with
  | mk b o s =>
    cases s with
    | none => rfl
    | some k => simp only [World.cell?] at h; split at h <;> simp at h
theorem RowIn.ints {w : World} {a : Option Addr} {len cap : Nat} {zs : List Int} (h : RowIn w a len cap zs) (b : Nat) (hb : w.heap.size ≤ b) (n : Nat) (hn : n ≤ len) : IntsIn w b a n := by
  intro k hk
  rcases h with ⟨_, h2, _⟩ | ⟨x, rfl, h1, h2, h3, h4, h5⟩
  · omega
  · have c0 := h4 0 (by omega)
    have ck := h4 k (by omega)
    simp only [Addr.add, if_true] at c0
    have hx := addr_of_cell c0
    refine ⟨x.block, x.off, zs.getD k 0, by rw [← hx], ?_, ?_, ?_⟩
    · rw [hx] at c0; have : x.block < w.heap.size := has_of_cell c0; omega
    · simp only [Addr.add] at ck
      split at ck
      · rename_i e; subst e; rw [hx] at ck; simpa using ck
      · exact ck
    · have hmem : zs.getD k 0 ∈ zs := by
        rw [List.getD_eq_getElem?_getD, List.getElem?_eq_getElem (by omega)]; simp
      have := h5 _ hmem
      have := bounds_i64 this
      omega

/-- The tape is new, and nothing that was there has turned. -/
def NewTape (w : World) (len : Nat) (e : Ending) (w' : World) : Prop :=
  ∃ b n, e = .returned (.pointer (some ⟨b, 0, none⟩)) ∧ Tape w' b 0 n ∧ Gr w w' ∧ w.heap.size ≤ b ∧ n ≤ len

set_option maxHeartbeats 400000 in
theorem newTape_any (w : World) (a : Option Addr) (len cap : Nat) (zs : List Int) (h : RowIn w a len cap zs) :
    Calls Tryd.prog 6 #[.slice a len cap] w (NewTape w len) := by
  have hi := h.ints
  have H := Lib.hid h
  rcases h with ⟨rfl, rfl, rfl, rfl⟩ | ⟨x, rfl, h1, h2, h3, _, _⟩
  · clear hi
    go_enter Tryd.func6, Tryd.ntmps6
    go_wp2
    go_ret
    refine ⟨w.heap.size, 0, rfl, ⟨none, 0, by simp [go_sem], by simp [go_sem], by simp [go_sem], by omega, by omega, by omega, fun k hk => by omega⟩, (Gr.refl w).alloc _, Nat.le_refl _, by omega⟩
  · unfold maxLen at h2
    have HI := Lib.hid hi
    clear hi h3
    by_cases hl : len ≤ 500
    · go_enter Tryd.func6, Tryd.ntmps6
      go_wp2
      go_ret
      refine ⟨w.heap.size, len, rfl, ⟨some x, cap, by simp [go_sem], by simp [go_sem], by simp [go_sem], by omega, by omega, by omega, ?_⟩, (Gr.refl w).alloc _, Nat.le_refl _, by omega⟩
      exact (HI.out w.heap.size (Nat.le_refl _) len (Nat.le_refl _)).gr ((Gr.refl w).alloc _)
    · go_enter Tryd.func6, Tryd.ntmps6
      go_wp2
      go_ret
      refine ⟨w.heap.size, 500, rfl, ⟨some x, cap, by simp [go_sem], by simp [go_sem], by simp [go_sem], by omega, by omega, by omega, ?_⟩, (Gr.refl w).alloc _, Nat.le_refl _, by omega⟩
      exact (HI.out w.heap.size (Nat.le_refl _) 500 (by omega)).gr ((Gr.refl w).alloc _)
end Go.Proofs.YtdbofdjjecoeeaaDoor
