/- Texts off a tape: Odd, Piece, Spoil: some text, not much longer (printed by wip/tools/spoil.py). Spoil: some text, not much longer than the given one (printed by wip/tools/spoil.py). -/
import Derived.Test.YtadldblpkgackaaGreatDoorKa
import Derived.Laws.Concat
import Derived.Deep.RegionHeld3
import Derived.Laws.BytesArg
set_option linter.unusedVariables false
set_option linter.unusedSimpArgs false
namespace Go.Proofs.YtadldblpkgackaaGreatDoor
open Go.RowKit

/-- A text of at most M bytes is made off the tape in block b. -/
def Says (w : World) (b len M : Nat) (e : Ending) (w' : World) : Prop :=
  ∃ (s : ByteArray) (p' : Int), e = .returned (.string s) ∧ s.size ≤ M ∧ 0 ≤ p' ∧ p' ≤ (len : Int) ∧ Gr (w.setCell ⟨b, 1, none⟩ (.int .i64 p')) w'
set_option maxRecDepth 100000 in
set_option maxHeartbeats 4000000 in
theorem odd_any (w : World) (b len : Nat) (p : Int) (h : Tape w b p len) : Calls Tryz.prog 50 #[.pointer (some ⟨b, 0, none⟩)] w (Says w b len 20) := by
  have hb := h.has
  have H := Lib.hid h
  clear h
  go_enter Tryz.func50, Tryz.ntmps50
  go_wp2_with fail
  refine (n_any _ b len p _ (by repeat (first | with_reducible refine Tape.xt _ _ ?_ | with_reducible refine Tape.alloc _ ?_ | with_reducible refine Tape.drewN _ ?_ | exact H.out.set (by assumption) (by assumption) | exact H.out)) (by omega) (by omega)).mono ?_
  rintro e w' ⟨x, p1, rfl, ⟨x0, x1⟩, q0, q1, O1, d1, rfl⟩
  obtain ⟨k, rfl⟩ : ∃ k : Nat, x = (k : Int) := ⟨x.toNat, by omega⟩
  have hk : k = 0 ∨ k = 1 ∨ k = 2 ∨ k = 3 ∨ k = 4 ∨ k = 5 ∨ k = 6 ∨ k = 7 ∨ k = 8 ∨ k = 9 ∨ k = 10 ∨ k = 11 ∨ k = 12 ∨ k = 13 ∨ k = 14 ∨ k = 15 ∨ k = 16 ∨ k = 17 ∨ k = 18 ∨ k = 19 ∨ k = 20 ∨ k = 21 ∨ k = 22 ∨ k = 23 ∨ k = 24 ∨ k = 25 ∨ k = 26 := by omega
  clear x0 x1
  rcases hk with rfl | rfl | rfl | rfl | rfl | rfl | rfl | rfl | rfl | rfl | rfl | rfl | rfl | rfl | rfl | rfl | rfl | rfl | rfl | rfl | rfl | rfl | rfl | rfl | rfl | rfl | rfl
  all_goals
    go_wp2_with fail
    go_ret
    refine ⟨_, p1, rfl, by decide, q0, q1, ?_⟩
    repeat (first | with_reducible exact Gr.refl _ | with_reducible refine Gr.xt _ _ ?_ | with_reducible refine Gr.alloc _ ?_)
set_option maxRecDepth 100000 in
set_option maxHeartbeats 4000000 in
theorem piece_any (w : World) (b len : Nat) (p : Int) (h : Tape w b p len) : Calls Tryz.prog 51 #[.pointer (some ⟨b, 0, none⟩)] w (Says w b len 20) := by
  have hb := h.has
  have H := Lib.hid h
  clear h
  go_enter Tryz.func51, Tryz.ntmps51
  go_wp2_with fail
  refine (n_any _ b len p _ (by repeat (first | with_reducible refine Tape.xt _ _ ?_ | with_reducible refine Tape.alloc _ ?_ | with_reducible refine Tape.drewN _ ?_ | exact H.out.set (by assumption) (by assumption) | exact H.out)) (by omega) (by omega)).mono ?_
  rintro e w' ⟨x, p1, rfl, ⟨x0, x1⟩, q0, q1, O1, d1, rfl⟩
  obtain ⟨k, rfl⟩ : ∃ k : Nat, x = (k : Int) := ⟨x.toNat, by omega⟩
  have hk : k = 0 ∨ k = 1 ∨ k = 2 ∨ k = 3 ∨ k = 4 ∨ k = 5 ∨ k = 6 ∨ k = 7 ∨ k = 8 ∨ k = 9 ∨ k = 10 ∨ k = 11 ∨ k = 12 ∨ k = 13 ∨ k = 14 ∨ k = 15 ∨ k = 16 ∨ k = 17 ∨ k = 18 ∨ k = 19 ∨ k = 20 ∨ k = 21 ∨ k = 22 ∨ k = 23 ∨ k = 24 ∨ k = 25 ∨ k = 26 ∨ k = 27 ∨ k = 28 ∨ k = 29 ∨ k = 30 ∨ k = 31 ∨ k = 32 ∨ k = 33 ∨ k = 34 ∨ k = 35 ∨ k = 36 ∨ k = 37 ∨ k = 38 ∨ k = 39 ∨ k = 40 ∨ k = 41 ∨ k = 42 ∨ k = 43 ∨ k = 44 ∨ k = 45 ∨ k = 46 ∨ k = 47 ∨ k = 48 ∨ k = 49 ∨ k = 50 ∨ k = 51 ∨ k = 52 ∨ k = 53 ∨ k = 54 := by omega
  clear x0 x1
  rcases hk with rfl | rfl | rfl | rfl | rfl | rfl | rfl | rfl | rfl | rfl | rfl | rfl | rfl | rfl | rfl | rfl | rfl | rfl | rfl | rfl | rfl | rfl | rfl | rfl | rfl | rfl | rfl | rfl | rfl | rfl | rfl | rfl | rfl | rfl | rfl | rfl | rfl | rfl | rfl | rfl | rfl | rfl | rfl | rfl | rfl | rfl | rfl | rfl | rfl | rfl | rfl | rfl | rfl | rfl | rfl
  all_goals
    go_wp2_with fail
    go_ret
    refine ⟨_, p1, rfl, by decide, q0, q1, ?_⟩
    repeat (first | with_reducible exact Gr.refl _ | with_reducible refine Gr.xt _ _ ?_ | with_reducible refine Gr.alloc _ ?_)
end Go.Proofs.YtadldblpkgackaaGreatDoor
set_option linter.unusedVariables false
set_option linter.unusedSimpArgs false
namespace Go.Proofs.YtadldblpkgackaaGreatDoor
open Go.RowKit
@[go_sem] theorem conv1 (w : World) (b cap : Nat) : (convert 25 9 (.slice (some ⟨b, 0, none⟩) 1 cap)).run Tryz.prog w =
    (match w.cell? ⟨b, 0, none⟩ with
    | some (.int .u8 z) => .ok (.string ⟨#[UInt8.ofNat z.toNat]⟩) w
    | _ => (Conv.bytesToString (.slice (some ⟨b, 0, none⟩) 1 cap)).run Tryz.prog w) := by
  split
  · rename_i z hz
    rw [run_convert_bytes_arg w 25 5 Tryz.underlying25 Tryz.underlying5 b 0 1 cap [z] rfl (fun i hi => by cases i with | zero => exact hz | succ i => omega) 9 Tryz.underlying9]
    rfl
  · exact run_convert_bytes_string w _ _ _ _ 1 cap Tryz.underlying25 Tryz.underlying5 Tryz.underlying9
set_option maxHeartbeats 2000000 in
set_option maxRecDepth 100000 in
theorem spoil_any (w : World) (b len : Nat) (p : Int) (s : ByteArray) (hs : s.size ≤ 20000) (h : Tape w b p len) : Calls Tryz.prog 16 #[.pointer (some ⟨b, 0, none⟩), .string s] w (Says w b len (s.size + 21)) := by
  have hb := h.has
  have H := Lib.hid h
  clear h
  by_cases h0 : s.size = 0
  · go_enter Tryz.func16, Tryz.ntmps16
    go_wp2_with fail
    refine (odd_any w b len p H.out).mono ?_
    rintro e w' ⟨s', p1, rfl, hs', q0, q1, hg⟩
    have HG := Lib.hid hg
    clear hg
    go_wp2_with fail
    go_ret
    exact ⟨s', p1, rfl, by omega, q0, q1, HG.out⟩
  · have h1 : ¬ (s.size : Int) = 0 := by omega
    go_enter Tryz.func16, Tryz.ntmps16
    go_wp2_with fail
    refine (n_any _ b len p _ (by repeat (first | with_reducible refine Tape.xt _ _ ?_ | with_reducible refine Tape.alloc _ ?_ | with_reducible refine Tape.drewN _ ?_ | exact H.out.set (by assumption) (by assumption) | exact H.out)) (by omega) (by omega)).mono ?_
    rintro e w' ⟨x, p1, rfl, ⟨x0, x1⟩, q0, q1, O1, d1, rfl⟩
    obtain ⟨k, rfl⟩ : ∃ k : Nat, x = (k : Int) := ⟨x.toNat, by omega⟩
    go_wp2_with fail
    refine (n_any _ b len p1 _ (by repeat (first | with_reducible refine Tape.xt _ _ ?_ | with_reducible refine Tape.alloc _ ?_ | with_reducible refine Tape.drewN _ ?_ | exact H.out.set (by assumption) (by assumption) | exact H.out)) (by omega) (by omega)).mono ?_
    rintro e w' ⟨y, p2, rfl, ⟨y0, y1⟩, q2, q3, O2, d2, rfl⟩
    have hy : y = 0 ∨ y = 1 ∨ y = 2 ∨ y = 3 ∨ y = 4 := by omega
    clear y0 y1
    have b1 : (k : Int) ≤ s.size := by omega
    have b2 : (k : Int) + 1 ≤ s.size := by omega
    have b3 : k ≤ s.size := by omega
    have b4 : k + 1 ≤ s.size := by omega
    have b5 : k < s.size := by omega
    have b6 : wrap64 ((k : Int) + 1) = (k : Int) + 1 := by unfold wrap64; omega
    have b7 : IntKind.i64.wrap ((k : Int) + 1) = (k : Int) + 1 := by simp [IntKind.wrap, IntKind.bits, IntKind.signed] <;> omega
    have b8 : ((k : Int) + 1).toNat = k + 1 := by omega
    have b9 : (0 : Int) ≤ (k : Int) + 1 := by omega
    rcases hy with rfl | rfl | rfl | rfl | rfl
    · go_wp2_with fail
      go_quiet (fail)
      go_wp2_with fail
      go_ret
      refine ⟨_, p2, rfl, ?_, q2, q3, by repeat (first | with_reducible exact Gr.refl _ | with_reducible refine Gr.xt _ _ ?_ | with_reducible refine Gr.alloc _ ?_ | with_reducible refine Gr.drewN _ ?_ | with_reducible refine Gr.drew ?_)⟩
      simp [ByteArray.size_append, ByteArray.size_extract, Go.ByteArray.size_mk'] <;> omega
    · go_wp2_with fail
      go_quiet (fail)
      go_wp2_with fail
      go_ret
      refine ⟨_, p2, rfl, ?_, q2, q3, by repeat (first | with_reducible exact Gr.refl _ | with_reducible refine Gr.xt _ _ ?_ | with_reducible refine Gr.alloc _ ?_ | with_reducible refine Gr.drewN _ ?_ | with_reducible refine Gr.drew ?_)⟩
      simp [ByteArray.size_append, ByteArray.size_extract, Go.ByteArray.size_mk'] <;> omega
    · go_wp2_with fail
      go_region_with (first | (go_at_call 17; refine (n_any _ b len p2 _ (by repeat (first | with_reducible refine Tape.xt _ _ ?_ | with_reducible refine Tape.alloc _ ?_ | with_reducible refine Tape.drewN _ ?_ | exact H.out.set (by assumption) (by assumption) | exact H.out)) (by omega) (by omega)).mono ?_; rintro e w' ⟨z, p3, rfl, ⟨z0, z1⟩, q4, q5, O3, d3, rfl⟩))
      all_goals
        go_wp2_with fail
        go_ret
        refine ⟨_, p3, rfl, ?_, q4, q5, by repeat (first | with_reducible exact Gr.refl _ | with_reducible refine Gr.xt _ _ ?_ | with_reducible refine Gr.alloc _ ?_ | with_reducible refine Gr.drewN _ ?_ | with_reducible refine Gr.drew ?_)⟩
        simp [ByteArray.size_append, ByteArray.size_extract, Go.ByteArray.size_mk'] <;> omega
    · go_wp2_with fail
      go_region_with (first | (go_at_call 50; refine (odd_any _ b len p2 (by repeat (first | with_reducible refine Tape.xt _ _ ?_ | with_reducible refine Tape.alloc _ ?_ | with_reducible refine Tape.drewN _ ?_ | exact H.out.set (by assumption) (by assumption) | exact H.out))).mono ?_; rintro e w' ⟨s', p3, rfl, hs', q4, q5, O3, d3, rfl⟩))
      all_goals
        go_wp2_with fail
        go_ret
        refine ⟨_, p3, rfl, ?_, q4, q5, by repeat (first | with_reducible exact Gr.refl _ | with_reducible refine Gr.xt _ _ ?_ | with_reducible refine Gr.alloc _ ?_ | with_reducible refine Gr.drewN _ ?_ | with_reducible refine Gr.drew ?_)⟩
        simp [ByteArray.size_append, ByteArray.size_extract, Go.ByteArray.size_mk'] <;> omega
    · go_wp2_with fail
      go_region_with (first | (go_at_call 51; refine (piece_any _ b len p2 (by repeat (first | with_reducible refine Tape.xt _ _ ?_ | with_reducible refine Tape.alloc _ ?_ | with_reducible refine Tape.drewN _ ?_ | exact H.out.set (by assumption) (by assumption) | exact H.out))).mono ?_; rintro e w' ⟨s', p3, rfl, hs', q4, q5, O3, d3, rfl⟩))
      all_goals
        go_wp2_with fail
        go_ret
        refine ⟨_, p3, rfl, ?_, q4, q5, by repeat (first | with_reducible exact Gr.refl _ | with_reducible refine Gr.xt _ _ ?_ | with_reducible refine Gr.alloc _ ?_ | with_reducible refine Gr.drewN _ ?_ | with_reducible refine Gr.drew ?_)⟩
        simp [ByteArray.size_append, ByteArray.size_extract, Go.ByteArray.size_mk'] <;> omega
end Go.Proofs.YtadldblpkgackaaGreatDoor
