/- The statements' own helpers over rates: made returns a valid rate; awake, the chapter's example, returns true. -/
import Derived.Test.YtdbofdjjecoeeaaDoorRateM
import Derived.Test.YtdbofdjjecoeeaaDoorRateC
import Derived.Test.YtdbofdjjecoeeaaDoorTape
import Derived.Laws.StructEq
set_option linter.unusedVariables false
set_option linter.unusedSimpArgs false
namespace Go.Proofs.YtdbofdjjecoeeaaDoor
open Go.RowKit

theorem eql_rate (a b c d : Int) (w : World) : (binOp .eql 27 (.agg #[.int .i64 a, .int .i64 b]) (.agg #[.int .i64 c, .int .i64 d])).run Tryd.prog w = .ok (.bool (a == c && b == d)) w := by
  have hu : Tryd.prog.underlying 27 = some (.struct (Tryd.prog.fieldsOf 27)) := by kernel_rfl
  have hs : Tryd.prog.stoodInHeld 27 = false := by kernel_rfl
  rw [run_eql_struct, run_equalIn_agg w 9999 _ _ _ hu hs]
  cases h1 : (a == c) <;> cases h2 : (b == d) <;> simp [go_sem, h1, h2]

/-- A rate is made off the tape in block b. -/
def Makes (w : World) (b len : Nat) (e : Ending) (w' : World) : Prop :=
  ∃ n d p', e = .returned (.agg #[.int .i64 n, .int .i64 d]) ∧ validB n d = true ∧ 0 ≤ p' ∧ p' ≤ (len : Int) ∧ Gr (w.setCell ⟨b, 1, none⟩ (.int .i64 p')) w'

set_option maxHeartbeats 1000000 in
theorem made_any (w : World) (b len : Nat) (p : Int) (h : Tape w b p len) :
    Calls Tryd.prog 7 #[.pointer (some ⟨b, 0, none⟩)] w (Makes w b len) := by
  have hb := h.has
  have H := Lib.hid h
  clear h
  go_enter Tryd.func7, Tryd.ntmps7
  go_wp2_with fail
  refine (range_any _ b len p _ _ (by repeat (first | with_reducible refine Tape.xt _ _ ?_ | with_reducible refine Tape.alloc _ ?_ | exact H.out.set (by assumption) (by assumption) | exact H.out)) (by omega) (by omega) (by omega)).mono ?_
  rintro e w' ⟨x1, p1, rfl, ⟨x1l, x1h⟩, q10, q11, O1, d1, rfl⟩
  go_wp2_with fail
  refine (range_any _ b len p1 _ _ (by repeat (first | with_reducible refine Tape.xt _ _ ?_ | with_reducible refine Tape.alloc _ ?_ | exact H.out.set (by assumption) (by assumption) | exact H.out)) (by omega) (by omega) (by omega)).mono ?_
  rintro e w' ⟨x2, p2, rfl, ⟨x2l, x2h⟩, q20, q21, O2, d2, rfl⟩
  go_wp2_with fail
  refine (n_any _ b len p2 _ (by repeat (first | with_reducible refine Tape.xt _ _ ?_ | with_reducible refine Tape.alloc _ ?_ | exact H.out.set (by assumption) (by assumption) | exact H.out)) (by omega) (by omega)).mono ?_
  rintro e w' ⟨x3, p3, rfl, ⟨x3l, x3h⟩, q30, q31, O3, d3, rfl⟩
  go_wp2_with fail
  refine (pick_any _ b len p3 (by repeat (first | with_reducible refine Tape.xt _ _ ?_ | with_reducible refine Tape.alloc _ ?_ | exact H.out.set (by assumption) (by assumption) | exact H.out)) _ 7 (InTo 0 144115188075855872) (by omega) (by omega) ?_ ?_).mono ?_
  · have : b < w.heap.size := hb; omega
  · intro k hk
    have : k = 0 ∨ k = 1 ∨ k = 2 ∨ k = 3 ∨ k = 4 ∨ k = 5 ∨ k = 6 := by omega
    rcases this with rfl | rfl | rfl | rfl | rfl | rfl | rfl
    all_goals refine ⟨_, by simp [go_sem]; rfl, ?_⟩
    all_goals (constructor <;> omega)
  rintro e w' ⟨x4, p4, rfl, ⟨x4l, x4h⟩, q40, q41, O4, d4, rfl⟩
  go_wp2_with fail
  refine (range_any _ b len p4 _ _ (by repeat (first | with_reducible refine Tape.xt _ _ ?_ | with_reducible refine Tape.alloc _ ?_ | exact H.out.set (by assumption) (by assumption) | exact H.out)) (by omega) (by omega) (by omega)).mono ?_
  rintro e w' ⟨x5, p5, rfl, ⟨x5l, x5h⟩, q50, q51, O5, d5, rfl⟩
  go_wp2_with fail
  refine (range_any _ b len p5 _ _ (by repeat (first | with_reducible refine Tape.xt _ _ ?_ | with_reducible refine Tape.alloc _ ?_ | exact H.out.set (by assumption) (by assumption) | exact H.out)) (by omega) (by omega) (by omega)).mono ?_
  rintro e w' ⟨x6, p6, rfl, ⟨x6l, x6h⟩, q60, q61, O6, d6, rfl⟩
  go_wp2_with fail
  refine (pick_any _ b len p6 (by repeat (first | with_reducible refine Tape.xt _ _ ?_ | with_reducible refine Tape.alloc _ ?_ | exact H.out.set (by assumption) (by assumption) | exact H.out)) _ 7 (InTo 1 16777216) (by omega) (by omega) ?_ ?_).mono ?_
  · have : b < w.heap.size := hb; omega
  · intro k hk
    have : k = 0 ∨ k = 1 ∨ k = 2 ∨ k = 3 ∨ k = 4 ∨ k = 5 ∨ k = 6 := by omega
    rcases this with rfl | rfl | rfl | rfl | rfl | rfl | rfl
    all_goals refine ⟨_, by simp [go_sem]; rfl, ?_⟩
    all_goals (constructor <;> omega)
  rintro e w' ⟨x7, p7, rfl, ⟨x7l, x7h⟩, q70, q71, O7, d7, rfl⟩
  go_wp2_with fail
  refine (ref_new_any _ _ _ (by omega) (by omega) (by omega) (by omega)).mono ?_
  rintro e w' ⟨rfl, O8, d8, rfl⟩
  have V := new_ok x4 x7 (okNew_of x4 x7 (by omega) (by omega) (by omega) (by omega))
  have HV := Lib.hid V.1
  clear V
  go_wp2_with fail
  refine bodyPost_ret (v := .agg #[.int .i64 (newN x4 x7), .int .i64 (newD x4 x7)]) ?_ rfl ?_
  · simp [results, Tryd.results7, go_sem]
  · refine ⟨_, _, p7, rfl, HV.out, by omega, by omega, ?_⟩
    repeat (first | with_reducible exact Gr.refl _ | with_reducible refine Gr.xt _ _ ?_ | with_reducible refine Gr.alloc _ ?_)

set_option maxHeartbeats 400000 in
theorem awake_any (w : World) : Calls Tryd.prog 11 #[] w (Grows w (.bool true)) := by
  have a1 : newN 6 4 = 3 := by decide
  have a2 : newD 6 4 = 2 := by decide
  have a3 : newE 6 4 = 0 := by decide
  have b1 : oN 3 2 3 = 1 := by decide
  have b2 : oD 3 2 3 = 2 := by decide
  have b3 : oE 3 2 3 = 0 := by decide
  have c1 : withinB 3 2 1 2 = true := by decide
  have c2 : withinB 3 2 2 2 = false := by decide
  go_enter Tryd.func11, Tryd.ntmps11
  go_wp2_with fail
  refine (new_any _ _ _ (by omega) (by omega) (by omega) (by omega)).mono ?_
  rw [a1, a2, a3]
  rintro e w' ⟨rfl, O1, d1, rfl⟩
  go_wp2_with fail
  refine (over_any _ _ _ _ (by omega) (by omega) (by omega) (by omega)).mono ?_
  rw [b1, b2, b3]
  rintro e w' ⟨rfl, O2, d2, rfl⟩
  go_wp2_with fail
  refine (within_any _ _ _ _ _ (by omega) (by omega) (by omega) (by omega)).mono ?_
  rw [c1]
  rintro e w' ⟨rfl, O3, d3, rfl⟩
  go_wp2_with fail
  refine (within_any _ _ _ _ _ (by omega) (by omega) (by omega) (by omega)).mono ?_
  rw [c2]
  rintro e w' ⟨rfl, O4, d4, rfl⟩
  go_wp2_with fail
  go_ret
  exact ⟨rfl, by repeat (first | with_reducible exact Gr.refl _ | with_reducible refine Gr.xt _ _ ?_ | with_reducible refine Gr.alloc _ ?_ | with_reducible refine Gr.drewN _ ?_)⟩
end Go.Proofs.YtdbofdjjecoeeaaDoor
