/- schema.head, number, words. -/
import Derived.Test.YtadldblpkgackaaGreatDoorUbB
import Derived.Lib.LaidTab
import Derived.Lib.ItoaLen
import Derived.Laws.Concat
import Derived.WalkMore
set_option linter.unusedVariables false
set_option linter.unusedSimpArgs false
namespace Go.Proofs.YtadldblpkgackaaGreatDoor
open Go.RowKit
open Classical

/-- The table of powers of ten lies as it was laid. -/
def Pow (w : World) : Prop := Lib.TabIs Tryz.prog w "internal/strconv.uint64pow10" .u64 Lib.pow10Tab
theorem powNamed : Tryz.prog.globalNamed "internal/strconv.uint64pow10" = some 4 := by kernel_rfl
theorem Pow.has {w : World} (h : Pow w) : 4 < w.heap.size := by
  unfold Pow Lib.TabIs World.var? at h
  rw [powNamed] at h
  rcases Nat.lt_or_ge 4 w.heap.size with h1 | h1
  · exact h1
  · simp [Array.getElem?_eq_none h1] at h
theorem Pow.gr {w w' : World} (h : Pow w) (hg : Gr w w') : Pow w' := var?_below hg.below powNamed h.has h
theorem grow_gr (w : World) (k : Nat) (os : Array Obj) : Gr w (Sort.grow (w.drewN k) os) := ⟨os, w.drawn + k, rfl⟩
theorem itoa_any (n : Int) (w : World) (h0 : -9223372036854775808 ≤ n) (h1 : n ≤ 9223372036854775807) (ht : Pow w) :
    Calls Tryz.prog 87 #[.int .i64 n] w (Grows w (.string (bs (Lib.itoa n)))) :=
  (Tryz.strconv_Itoa n h0 h1 w ht).mono fun e w' ⟨he, k, os, hw⟩ => ⟨he, by rw [hw]; exact grow_gr w k os⟩
/-- The words of the kinds lie as they were laid. -/
def Kin (w : World) : Prop := ∀ i (h : i < 7), w.cell? ⟨0, i, none⟩ = some (.string (bs (kindsS[i]'h)))
theorem Kin.gr {w w' : World} (h : Kin w) (hg : Gr w w') : Kin w' := fun i hi => cell_gr hg (h i hi)
theorem eqSchema : (⟨#[115, 99, 104, 101, 109, 97, 32]⟩ : ByteArray) = bs schemaS := rfl
theorem eqClosed : (⟨#[32, 99, 108, 111, 115, 101, 100]⟩ : ByteArray) = bs closedS := rfl
theorem head_any (s : Sch) (a : Option Addr) (n cap : Nat) (w : World) (hf : s.comp.length ≤ 1000000) :
    Calls Tryz.prog 46 #[.agg #[.string (bs s.comp), .bool s.closed, .slice a n cap]] w (Grows w (.string (bs (headP s)))) := by
  obtain ⟨comp, closed, rules⟩ := s
  dsimp only at hf ⊢
  have h1 : ¬ (9223372036854775807 < 7 + comp.length) := by omega
  have h2 : ¬ (9223372036854775807 < 7 + comp.length + 7) := by omega
  cases closed with
  | true =>
    go_enter Tryz.func46, Tryz.ntmps46
    go_wp2_with fail
    go_ret
    exact ⟨by simp only [eqSchema, eqClosed, bs_append]; rfl, (Gr.refl _).alloc _⟩
  | false =>
    go_enter Tryz.func46, Tryz.ntmps46
    go_wp2_with fail
    go_ret
    exact ⟨by simp only [eqSchema, eqClosed, bs_append]; rfl, (Gr.refl _).alloc _⟩
end Go.Proofs.YtadldblpkgackaaGreatDoor
