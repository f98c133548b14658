/- Texts off a tape: Odd, Piece, Spoil: some text, not much longer (printed by wip/tools/spoil.py). -/
import Derived.Test.YtdbofdjjecoeeaaDoorTape
import Derived.Laws.Concat
import Derived.Deep.RegionHeld3
set_option linter.unusedVariables false
set_option linter.unusedSimpArgs false
namespace Go.Proofs.YtdbofdjjecoeeaaDoor
open Go.RowKit

/-- A text of at most M bytes is made off the tape in block b. -/
def Says (w : World) (b len M : Nat) (e : Ending) (w' : World) : Prop :=
  ∃ (s : ByteArray) (p' : Int), e = .returned (.string s) ∧ s.size ≤ M ∧ 0 ≤ p' ∧ p' ≤ (len : Int) ∧ Gr (w.setCell ⟨b, 1, none⟩ (.int .i64 p')) w'
set_option maxRecDepth 100000 in
set_option maxHeartbeats 4000000 in
theorem odd_any (w : World) (b len : Nat) (p : Int) (h : Tape w b p len) : Calls Tryd.prog 45 #[.pointer (some ⟨b, 0, none⟩)] w (Says w b len 20) := by
  have hb := h.has
  have H := Lib.hid h
  clear h
  go_enter Tryd.func45, Tryd.ntmps45
  go_wp2_with fail
  refine (n_any _ b len p _ (by repeat (first | with_reducible refine Tape.xt _ _ ?_ | with_reducible refine Tape.alloc _ ?_ | with_reducible refine Tape.drewN _ ?_ | exact H.out.set (by assumption) (by assumption) | exact H.out)) (by omega) (by omega)).mono ?_
  rintro e w' ⟨x, p1, rfl, ⟨x0, x1⟩, q0, q1, O1, d1, rfl⟩
  obtain ⟨k, rfl⟩ : ∃ k : Nat, x = (k : Int) := ⟨x.toNat, by omega⟩
  have hk : k = 0 ∨ k = 1 ∨ k = 2 ∨ k = 3 ∨ k = 4 ∨ k = 5 ∨ k = 6 ∨ k = 7 ∨ k = 8 ∨ k = 9 ∨ k = 10 ∨ k = 11 ∨ k = 12 ∨ k = 13 ∨ k = 14 ∨ k = 15 ∨ k = 16 ∨ k = 17 ∨ k = 18 ∨ k = 19 ∨ k = 20 ∨ k = 21 ∨ k = 22 ∨ k = 23 ∨ k = 24 ∨ k = 25 ∨ k = 26 := by omega
  clear x0 x1
  rcases hk with rfl | rfl | rfl | rfl | rfl | rfl | rfl | rfl | rfl | rfl | rfl | rfl | rfl | rfl | rfl | rfl | rfl | rfl | rfl | rfl | rfl | rfl | rfl | rfl | rfl | rfl | rfl
  all_goals
    go_wp2_with fail
    go_ret
    refine ⟨_, p1, rfl, by decide, q0, q1, ?_⟩
    repeat (first | with_reducible exact Gr.refl _ | with_reducible refine Gr.xt _ _ ?_ | with_reducible refine Gr.alloc _ ?_)
set_option maxRecDepth 100000 in
set_option maxHeartbeats 4000000 in
theorem piece_any (w : World) (b len : Nat) (p : Int) (h : Tape w b p len) : Calls Tryd.prog 46 #[.pointer (some ⟨b, 0, none⟩)] w (Says w b len 20) := by
  have hb := h.has
  have H := Lib.hid h
  clear h
  go_enter Tryd.func46, Tryd.ntmps46
  go_wp2_with fail
  refine (n_any _ b len p _ (by repeat (first | with_reducible refine Tape.xt _ _ ?_ | with_reducible refine Tape.alloc _ ?_ | with_reducible refine Tape.drewN _ ?_ | exact H.out.set (by assumption) (by assumption) | exact H.out)) (by omega) (by omega)).mono ?_
  rintro e w' ⟨x, p1, rfl, ⟨x0, x1⟩, q0, q1, O1, d1, rfl⟩
  obtain ⟨k, rfl⟩ : ∃ k : Nat, x = (k : Int) := ⟨x.toNat, by omega⟩
  have hk : k = 0 ∨ k = 1 ∨ k = 2 ∨ k = 3 ∨ k = 4 ∨ k = 5 ∨ k = 6 ∨ k = 7 ∨ k = 8 ∨ k = 9 ∨ k = 10 ∨ k = 11 ∨ k = 12 ∨ k = 13 ∨ k = 14 ∨ k = 15 ∨ k = 16 ∨ k = 17 ∨ k = 18 ∨ k = 19 ∨ k = 20 ∨ k = 21 ∨ k = 22 ∨ k = 23 ∨ k = 24 ∨ k = 25 ∨ k = 26 ∨ k = 27 ∨ k = 28 ∨ k = 29 ∨ k = 30 ∨ k = 31 ∨ k = 32 ∨ k = 33 ∨ k = 34 ∨ k = 35 ∨ k = 36 ∨ k = 37 ∨ k = 38 ∨ k = 39 ∨ k = 40 ∨ k = 41 ∨ k = 42 ∨ k = 43 ∨ k = 44 ∨ k = 45 ∨ k = 46 ∨ k = 47 ∨ k = 48 ∨ k = 49 ∨ k = 50 ∨ k = 51 ∨ k = 52 ∨ k = 53 ∨ k = 54 := by omega
  clear x0 x1
  rcases hk with rfl | rfl | rfl | rfl | rfl | rfl | rfl | rfl | rfl | rfl | rfl | rfl | rfl | rfl | rfl | rfl | rfl | rfl | rfl | rfl | rfl | rfl | rfl | rfl | rfl | rfl | rfl | rfl | rfl | rfl | rfl | rfl | rfl | rfl | rfl | rfl | rfl | rfl | rfl | rfl | rfl | rfl | rfl | rfl | rfl | rfl | rfl | rfl | rfl | rfl | rfl | rfl | rfl | rfl | rfl
  all_goals
    go_wp2_with fail
    go_ret
    refine ⟨_, p1, rfl, by decide, q0, q1, ?_⟩
    repeat (first | with_reducible exact Gr.refl _ | with_reducible refine Gr.xt _ _ ?_ | with_reducible refine Gr.alloc _ ?_)
end Go.Proofs.YtdbofdjjecoeeaaDoor
