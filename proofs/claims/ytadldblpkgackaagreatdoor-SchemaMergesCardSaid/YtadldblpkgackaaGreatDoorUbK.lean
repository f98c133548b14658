/- Rows of the call's own: what stays. -/
import Derived.Test.YtadldblpkgackaaGreatDoorKd
set_option linter.unusedVariables false
set_option linter.unusedSimpArgs false
namespace Go.Proofs.YtadldblpkgackaaGreatDoor
open Go.RowKit
open Classical

/-- Block B has cells of type T. -/
def Ty (w : World) (B T : Nat) : Prop := ∃ cur f, w.heap[B]? = some (.cells cur T f)
theorem Ty.gr {w w' : World} {B T : Nat} (h : Ty w B T) (hg : Gr w w') : Ty w' B T := by
  obtain ⟨cur, f, h⟩ := h
  obtain ⟨O, d, rfl⟩ := hg
  exact ⟨cur, f, by rw [block_xt w O d B (Array.getElem?_eq_some_iff.1 h).1]; exact h⟩
theorem Ty.apart {w : World} {B C T U : Nat} (h : Ty w B T) (k : Ty w C U) (hne : T ≠ U) : B ≠ C := by
  rintro rfl
  obtain ⟨_, _, h⟩ := h
  obtain ⟨_, _, k⟩ := k
  rw [h] at k
  cases k
  exact hne rfl
theorem Row.ty {w : World} {B T : Nat} {vs : List Value} (h : Row w B T vs) : Ty w B T := ⟨_, _, h⟩
theorem owns_ty {w : World} {base e size n : Nat} {v : Value} {xs : List Value} (h : w.ownsRow base e size v n xs) {g : Nat} (hg : v.ownBlock = some g) : Ty w g e := by
  rcases h.2 with ⟨rfl, _⟩ | ⟨g', cap, cur, rfl, _, h2, _⟩
  · cases hg
  · injection hg with hg
    subst hg
    exact ⟨_, _, h2⟩
theorem owns_ne {w : World} {b1 e1 s1 n1 b2 e2 s2 n2 : Nat} {v1 v2 : Value} {x1 x2 : List Value} (h : w.ownsRow b1 e1 s1 v1 n1 x1) (k : w.ownsRow b2 e2 s2 v2 n2 x2) (hne : e1 ≠ e2) : v1.ownBlock = none ∨ v1.ownBlock ≠ v2.ownBlock := by
  cases hz : v1.ownBlock with
  | none => exact .inl rfl
  | some g => exact .inr fun e => (owns_ty h hz).apart (owns_ty k e.symm) hne rfl
theorem Row.kept {w w' : World} {row : Option Nat} {B T : Nat} {vs : List Value} (h : Row w B T vs) (hg : w.grownBy w' row) (hne : some B ≠ row) : Row w' B T vs := (hg.block B h.has hne).trans h
theorem Ty.kept {w w' : World} {row : Option Nat} {B T : Nat} (h : Ty w B T) (hg : w.grownBy w' row) (hne : some B ≠ row) : Ty w' B T := by
  obtain ⟨cur, f, h⟩ := h
  exact ⟨cur, f, (hg.block B (Array.getElem?_eq_some_iff.1 h).1 hne).trans h⟩
theorem Ty.ne {w : World} {B T b2 e2 s2 n2 : Nat} {v2 : Value} {x2 : List Value} (h : Ty w B T) (k : w.ownsRow b2 e2 s2 v2 n2 x2) (hne : T ≠ e2) : some B ≠ v2.ownBlock := fun e => h.apart (owns_ty k e.symm) hne rfl
theorem Ty.lt {w : World} {B T : Nat} (h : Ty w B T) : B < w.heap.size := by
  obtain ⟨_, _, h⟩ := h
  exact (Array.getElem?_eq_some_iff.1 h).1
theorem row_cells {w : World} {B T : Nat} {xs : List Value} (h : Row w B T xs) : ∀ j u, xs[j]? = some u → w.cell? ((⟨B, 0, none⟩ : Addr).add j) = some u := by
  intro j u hu
  obtain ⟨hj, e⟩ := List.getElem?_eq_some_iff.1 hu
  rw [Addr.add_lit, Nat.zero_add, h.cell j hj, e]
theorem Ty.set {w : World} {B T : Nat} (h : Ty w B T) (a : Addr) (v : Value) : Ty (w.setCell a v) B T := by
  obtain ⟨cur, f, h⟩ := h
  unfold Ty World.setCell
  simp only [Array.getElem?_modify, h]
  split <;> simp
theorem owns_stc {w : World} {base e size n : Nat} {v : Value} {xs : List Value} (h : w.ownsRow base e size v n xs) {B o : Nat} {u : Value} (hne : v.ownBlock ≠ some B) : (w.setCell ⟨B, o, none⟩ u).ownsRow base e size v n xs := by
  refine ⟨h.1, ?_⟩
  rcases h.2 with q | ⟨g, cap, cur, rfl, h1, h2, h3⟩
  · exact .inl q
  · refine .inr ⟨g, cap, cur, rfl, h1, ?_, h3⟩
    have : B ≠ g := fun e => hne (by rw [e]; rfl)
    simp only [World.setCell, Array.getElem?_modify]
    rw [if_neg this]; exact h2
theorem owns_ne_ty {w : World} {base e size n B T : Nat} {v : Value} {xs : List Value} (h : w.ownsRow base e size v n xs) (k : Ty w B T) (hne : e ≠ T) : v.ownBlock ≠ some B := fun q => (owns_ty h q).apart k hne rfl
theorem grown_after {wr w w2 : World} {row : Option Nat} (g : Gr wr w) (h : w.grownBy w2 row) : wr.grownBy w2 row := by
  obtain ⟨h1, h2, h3, h4, h5⟩ := g.below
  exact ⟨h.os.trans h1, h.tape.trans h2, h.output.trans h3, Nat.le_trans h4 h.size, fun k hk hne => (h.block k (Nat.lt_of_lt_of_le hk h4) hne).trans (h5 k hk)⟩
theorem row_owns {w : World} {B T size n base : Nat} {xs : List Value} (h : Row w B T xs) (hb : base ≤ B) (hx : xs.length = n * size) (hn : n ≤ maxLen) : w.ownsRow base T size (.slice (some ⟨B, 0, none⟩) n n) n xs :=
  ⟨hx, .inr ⟨B, n, xs.toArray, rfl, hb, h, Nat.le_refl _, hn, by simpa using hx, by rw [← hx]; simp⟩⟩
theorem wp_wld {P : Program} {c : Code} {fr : Act} {w w' : World} {Q : Exit → Act → World → Prop} (h : w = w') (k : Code.wp P c Q fr w') : Code.wp P c Q fr w := by
  rw [h]; exact k
end Go.Proofs.YtadldblpkgackaaGreatDoor
