/- schema.readRule. -/
import Derived.Test.YtadldblpkgackaaGreatDoorUbP
set_option linter.unusedVariables false
set_option linter.unusedSimpArgs false
namespace Go.Proofs.YtadldblpkgackaaGreatDoor
open Go.RowKit
open Classical

theorem readRule_rrP {line name : St} {l : List St} (hL : Lib.split (Lib.trimPrefix line [9]) [32] = name :: l) :
    readRuleP line = (if l.head? = some reqS then rrP line name true (Lib.hasPrefix line [9]) l.tail else rrP line name false (Lib.hasPrefix line [9]) l) := by
  unfold readRuleP
  rw [hL]
  by_cases h : l.head? = some reqS
  · rw [if_pos h]
    simp only [h, if_true]
    rfl
  · rw [if_neg h]
    simp only [h, if_false]
    rfl
set_option maxRecDepth 100000 in
set_option maxHeartbeats 8000000 in
theorem readRule_any (line : St) (w : World) (hl : line.length ≤ 20000) (h : Libs w) :
    Calls Tryz.prog 31 #[.string (bs line)] w (GivesRu line w) := by
  have H := Lib.hid h
  clear h
  go_enter Tryz.func31, Tryz.ntmps31
  refine wp_cut 6 fun T hT => ?_
  simp only [cutAt]
  have htl := trim_le line [9]
  go_wp2_with (go_at_call 75; refine (cutPre_any line [9] _).mono ?_; rintro e w' ⟨rfl, rfl⟩)
  refine (split_any (Lib.trimPrefix line [9]) [32] _ (by omega) (by simp) (H.out.gr ((Gr.refl _).alloc _))).mono ?_
  rintro e w1 ⟨B, rfl, hrow, hB, hg⟩
  have G1 := Lib.hid (((Gr.refl w).alloc (.cells #[.string ⟨#[]⟩, .bool false, .int .i64 0, .int .i64 0, .int .i64 0, .int .i64 0, .slice none 0 0] 28)).trans hg)
  have RB := Lib.hid (Row.gr (Row.new w #[.string ⟨#[]⟩, .bool false, .int .i64 0, .int .i64 0, .int .i64 0, .int .i64 0, .slice none 0 0] 28) hg)
  have hne := split_ne (Lib.trimPrefix line [9]) [32]
  have hle := split_le (Lib.trimPrefix line [9]) [32]
  have hln := split_len (Lib.trimPrefix line [9]) [32] (by simp)
  obtain ⟨name, l, hL⟩ : ∃ name l, Lib.split (Lib.trimPrefix line [9]) [32] = name :: l := by
    cases h : Lib.split (Lib.trimPrefix line [9]) [32] with
    | nil => rw [h] at hne; simp at hne
    | cons a b => exact ⟨a, b, rfl⟩
  rw [hL] at hrow hle hln ⊢
  have R1 := Lib.hid hrow
  have HL := Lib.hid (readRule_rrP hL)
  have LE := Lib.hid (fun s hs => Nat.le_trans (Nat.le_trans (hle s hs) htl) hl)
  have hll : l.length ≤ 20000 := by simp at hln; omega
  have c0 := R1.out.cell 0 (by simp [strV])
  rw [show (strV (name :: l))[0]'(by simp [strV]) = Value.string (bs name) from rfl] at c0
  have ch0 := has_of_cell c0
  have hnb : w.heap.size ≠ w1.heap.size := by have := RB.out.has; unfold Has at this; omega
  have HNB := Lib.hid hnb
  have GZ := Lib.hid G1.out.size
  clear hrow hB hg hL hne hle hln htl hnb
  cases l with
  | nil =>
    have E : Hid (readRuleP line = rrP line name false (Lib.hasPrefix line [9]) []) := Lib.hid (by rw [HL.out, if_neg (by simp)])
    go_wp2_with fail
    refine wp_at hT (by kernel_rfl) (rrC (name := name) (req := false) (l := []) (all := [name]) E.out (G1.out.alloc _) (Row.new w1 _ _) (RB.out.alloc _) HNB.out (Nat.le_refl _) GZ.out (R1.out.alloc _) H.out (fun q => absurd rfl q) (LE.out name (by simp)) LE.out (by simp))
  | cons x l =>
    have c1 : w1.cell? ⟨B, 1, none⟩ = some (.string (bs x)) := R1.out.cell 1 (by simp [strV])
    by_cases hq : x = reqS
    · subst hq
      have E : Hid (readRuleP line = rrP line name true (Lib.hasPrefix line [9]) l) := Lib.hid (by rw [HL.out, if_pos (by simp)]; rfl)
      unfold reqS at c1
      have n1 : (w1.alloc (.cells #[.string (bs name), .bool false, .int .i64 0, .int .i64 0, .int .i64 0, .int .i64 0, .slice none 0 0] 28)).cell? ⟨w1.heap.size, 1, none⟩ = some (.bool false) := (Row.new w1 _ _).cell 1 (by simp)
      cases l with
      | nil =>
        go_wp2_with fail
        go_region_with fail
        all_goals (try go_simp)
        all_goals (try go_wp2_with fail)
        all_goals refine wp_at hT (by kernel_rfl) (rrC (name := name) (req := true) (l := []) (o := 1) (all := name :: reqS :: []) E.out (G1.out.alloc _).drew (Row.new w1 _ _).drew (RB.out.alloc _).drew HNB.out (Nat.le_refl _) GZ.out (R1.out.alloc _).drew H.out (fun q => absurd rfl q) (LE.out name (by simp)) LE.out (by simp at hll ⊢; try omega))
      | cons y l =>
        go_wp2_with fail
        go_region_with fail
        all_goals (try go_simp)
        all_goals (try go_wp2_with fail)
        all_goals refine wp_at hT (by kernel_rfl) (rrC (name := name) (req := true) (l := y :: l) (o := 2) (all := name :: reqS :: y :: l) E.out (G1.out.alloc _).drew (Row.new w1 _ _).drew (RB.out.alloc _).drew HNB.out (Nat.le_refl _) GZ.out (R1.out.alloc _).drew H.out (fun q => rfl) (LE.out name (by simp)) LE.out (by simp at hll ⊢; try omega))
    · have hqb : (x == [114, 101, 113, 117, 105, 114, 101, 100]) = false := by rw [beq_eq_false_iff_ne]; exact hq
      have E : Hid (readRuleP line = rrP line name false (Lib.hasPrefix line [9]) (x :: l)) := Lib.hid (by rw [HL.out, if_neg (by simpa using hq)])
      clear hq
      go_wp2_with fail
      refine wp_at hT (by kernel_rfl) (rrC (name := name) (req := false) (l := x :: l) (o := 1) (all := name :: x :: l) E.out (G1.out.alloc _) (Row.new w1 _ _) (RB.out.alloc _) HNB.out (Nat.le_refl _) GZ.out (R1.out.alloc _) H.out (fun q => rfl) (LE.out name (by simp)) LE.out (by simp at hll ⊢; omega))
end Go.Proofs.YtadldblpkgackaaGreatDoor
