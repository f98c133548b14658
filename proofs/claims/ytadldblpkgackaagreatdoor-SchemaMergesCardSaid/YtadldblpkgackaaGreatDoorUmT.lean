/- What the listed variables give SchemaMerges. -/
import Derived.Test.YtadldblpkgackaaGreatDoorUeT
import Derived.Test.YtadldblpkgackaaGreatDoorUmG
set_option linter.unusedVariables false
namespace Go.Proofs.YtadldblpkgackaaGreatDoor
open Go Go.RowKit
theorem libs_of5 {W : World} (h : laidMetH Tryz.prog Rows.schemaMergesRow.laid W) (hsh : W.ShapedOpen Tryz.prog) : Libs W := by
  rw [MakeChecks.laidMetH_plain _ _ _ (by kernel_rfl)] at h
  obtain ⟨a1, s1, h1, -, -, -⟩ := laid_sentinel (h.tail.tail.tail.tail) rngNamed tRng Tryz.underlying81 rowES Tryz.underlying184 Tryz.underlying186 rfl rfl Tryz.underlying9 cellsES cellsStr
  obtain ⟨a2, s2, h2, -, -, -⟩ := laid_sentinel (h.tail.tail.tail.tail.tail) synNamed tSyn Tryz.underlying81 rowES Tryz.underlying184 Tryz.underlying186 rfl rfl Tryz.underlying9 cellsES cellsStr
  refine ⟨Lib.tabIs_of_head powNamed tPow Tryz.underlying176 Tryz.underlying140 (by kernel_rfl) (by kernel_rfl) (h.tail.tail), ?_, ⟨_, _, h2⟩, ⟨_, _, h1⟩, kin_of_laid (h.tail.tail.tail.tail.tail.tail)⟩
  exact cell_of_shapedOpen_int (t := 3) (zero := #[.int .i64 0]) hsh (of_decide_eq_true (by kernel_rfl)) (by kernel_rfl) rfl (by kernel_rfl) (by kernel_rfl) Tryz.underlying3
end Go.Proofs.YtadldblpkgackaaGreatDoor
