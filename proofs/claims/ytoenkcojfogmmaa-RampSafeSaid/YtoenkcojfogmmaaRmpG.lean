/- The chapter's example: two, awake. -/
import Derived.Test.YtoenkcojfogmmaaRmpF
set_option linter.unusedVariables false
set_option linter.unusedSimpArgs false
namespace Go.Proofs.Ytoenkcojfogmmaa
open Go.RowKit
open Classical

def twoL : List Sup := [⟨-1, [3000, 5000], 0, 0, true⟩, ⟨0, [1800, 4000], 0, 0, true⟩]
def lowR : Rls := ⟨[true, true], [0, 0]⟩
def highR : Rls := ⟨[true, true], [1, 1]⟩
theorem two_chk : chk twoL = 0 := by
  refine chk_ok ?_ ?_
  · rintro (h | ⟨k, h, q⟩)
    · simp [twoL] at h
    · have : k = 0 ∨ k = 1 := by simp [twoL] at h; omega
      rcases this with rfl | rfl <;> simp [twoL] at q
  · intro k hk
    have : k = 0 ∨ k = 1 := by simp [twoL] at hk; omega
    refine ⟨hk, ?_⟩
    rcases this with rfl | rfl
    · refine ⟨by simp [HeadOk, twoL], fun j hj => ?_⟩
      have : j = 0 ∨ j = 1 := by simp [twoL] at hj; omega
      rcases this with rfl | rfl <;> exact ⟨hj, by simp [twoL]⟩
    · refine ⟨by simp [HeadOk, twoL], fun j hj => ?_⟩
      have : j = 0 ∨ j = 1 := by simp [twoL] at hj; omega
      rcases this with rfl | rfl <;> exact ⟨hj, by simp [twoL]⟩
theorem two_drws : DrwsOk twoL [] := ⟨two_chk, by simp, fun k h => by simp at h⟩
theorem two_low : RlsOk twoL lowR := ⟨two_chk, rfl, rfl, fun k h h' => by
  have : k = 0 ∨ k = 1 := by simp [twoL] at h; omega
  rcases this with rfl | rfl <;> simp [twoL, lowR]⟩
theorem two_high : RlsOk twoL highR := ⟨two_chk, rfl, rfl, fun k h h' => by
  have : k = 0 ∨ k = 1 := by simp [twoL] at h; omega
  rcases this with rfl | rfl <;> simp [twoL, highR]⟩
theorem two_meets_low : MeetsAll twoL lowR [] := ⟨two_drws, two_low, fun i hi => by
  have : i = 0 ∨ i = 1 := by simp [twoL] at hi; omega
  rcases this with rfl | rfl
  · exact ⟨fun _ => rfl, fun _ h => ⟨by show ld twoL [] 0 ≤ (0 : Int); decide, by simp [twoL]⟩⟩
  · exact ⟨fun _ => rfl, fun _ h => ⟨by show ld twoL [] 1 ≤ (0 : Int); decide, fun _ => ⟨rfl, by show vlt twoL lowR 1 + (0 : Int) ≤ vlt twoL lowR 0; decide⟩⟩⟩, fun k h => by simp at h⟩
theorem two_meets_high : MeetsAll twoL highR [] := ⟨two_drws, two_high, fun i hi => by
  have : i = 0 ∨ i = 1 := by simp [twoL] at hi; omega
  rcases this with rfl | rfl
  · exact ⟨fun _ => rfl, fun _ h => ⟨by show ld twoL [] 0 ≤ (0 : Int); decide, by simp [twoL]⟩⟩
  · exact ⟨fun _ => rfl, fun _ h => ⟨by show ld twoL [] 1 ≤ (0 : Int); decide, fun _ => ⟨rfl, by show vlt twoL highR 1 + (0 : Int) ≤ vlt twoL highR 0; decide⟩⟩⟩, fun k h => by simp at h⟩
theorem two_up : planE twoL lowR highR [] = 0 ∧ planP twoL lowR highR [] = [⟨2, 0, 1⟩, ⟨2, 1, 1⟩] := by
  have e : planE twoL lowR highR [] = 0 := by
    rw [planE, if_pos (begR_of two_chk (by simp; exact ⟨two_low, two_high⟩)), if_pos two_drws, if_pos ⟨two_meets_low, two_meets_high⟩]
  refine ⟨e, ?_⟩
  rw [planP, if_pos e]
  simp [planL, downTo, upTo, twoL, wLevel, wSupply, joinR, jlv, onAt, lvAt, lowR, highR, List.range_succ]
theorem two_down : planE twoL highR lowR [] = 0 ∧ planP twoL highR lowR [] = [⟨2, 1, 0⟩, ⟨2, 0, 0⟩] := by
  have e : planE twoL highR lowR [] = 0 := by
    rw [planE, if_pos (begR_of two_chk (by simp; exact ⟨two_high, two_low⟩)), if_pos two_drws, if_pos ⟨two_meets_high, two_meets_low⟩]
  refine ⟨e, ?_⟩
  rw [planP, if_pos e]
  simp [planL, downTo, upTo, twoL, wLevel, wSupply, joinR, jlv, onAt, lvAt, lowR, highR, List.range_succ]
/-- A row of numbers. -/
theorem nums_two {w : World} {B : Nat} {x y : Int} (e0 : w.cell? ⟨B, 0, none⟩ = some (.int .i64 x)) (e1 : w.cell? ⟨B, 1, none⟩ = some (.int .i64 y)) (hx : Wide x) (hy : Wide y) : SlOf 1 RI w (some ⟨B, 0, none⟩) [x, y] := by
  intro k hk
  refine ⟨B, 0, rfl, ?_⟩
  have : k = 0 ∨ k = 1 := by simp at hk; omega
  rcases this with rfl | rfl
  · exact ⟨e0, hx⟩
  · exact ⟨e1, hy⟩
theorem bools_two {w : World} {B : Nat} {x y : Bool} (e0 : w.cell? ⟨B, 0, none⟩ = some (.bool x)) (e1 : w.cell? ⟨B, 1, none⟩ = some (.bool y)) : SlOf 1 RB w (some ⟨B, 0, none⟩) [x, y] := by
  intro k hk
  refine ⟨B, 0, rfl, ?_⟩
  have : k = 0 ∨ k = 1 := by simp at hk; omega
  rcases this with rfl | rfl
  · exact e0
  · exact e1

set_option maxRecDepth 100000 in
set_option maxHeartbeats 1000000 in
theorem two_any (w : World) : Calls Try.prog 36 #[] w (GivesSl 5 RSup w twoL) := by
  go_enter Try.func36, Try.ntmps36
  go_wp2
  go_ret
  refine ⟨some ⟨w.heap.size + 1 + 1, 0, none⟩, 2, rfl, by simp [twoL], by simp [Fit, twoL], ?_, by repeat (first | with_reducible exact Gr.refl _ | with_reducible refine Gr.alloc _ ?_ | with_reducible refine Gr.xt _ _ ?_ | with_reducible refine Gr.drew ?_)⟩
  intro k hk
  have : k = 0 ∨ k = 1 := by simp [twoL] at hk; omega
  refine ⟨_, 0, rfl, ?_⟩
  rcases this with rfl | rfl
  · refine ⟨⟨by simp [go_sem, twoL], by unfold Wide; simp [twoL]⟩, ⟨some ⟨w.heap.size, 0, none⟩, 2, by simp [go_sem, twoL], by simp [twoL], by simp [Fit, twoL], nums_two (by simp [go_sem]) (by simp [go_sem]) (by unfold Wide; simp) (by unfold Wide; simp)⟩, ⟨by simp [go_sem, twoL], by unfold Wide; simp [twoL]⟩, ⟨by simp [go_sem, twoL], by unfold Wide; simp [twoL]⟩, by unfold RB; simp [go_sem, twoL]⟩
  · refine ⟨⟨by simp [go_sem, twoL], by unfold Wide; simp [twoL]⟩, ⟨some ⟨w.heap.size + 1, 0, none⟩, 2, by simp [go_sem, twoL], by simp [twoL], by simp [Fit, twoL], nums_two (by simp [go_sem]) (by simp [go_sem]) (by unfold Wide; simp) (by unfold Wide; simp)⟩, ⟨by simp [go_sem, twoL], by unfold Wide; simp [twoL]⟩, ⟨by simp [go_sem, twoL], by unfold Wide; simp [twoL]⟩, by unfold RB; simp [go_sem, twoL]⟩

set_option maxRecDepth 100000 in
set_option maxHeartbeats 8000000 in
theorem awake_any (w : World) : Calls Try.prog 12 #[] w (Grows w (.bool true)) := by
  go_enter Try.func12, Try.ntmps12
  go_wp2_with fail
  obtain ⟨W0, hW0⟩ : ∃ W0 : World, W0 = ((((((w.alloc (.cells #[.bool true, .bool true] 4)).alloc (.cells #[.int .i64 0, .int .i64 0] 3)).alloc (.cells #[.bool true, .bool true] 4)).alloc (.cells #[.int .i64 1, .int .i64 1] 3)).alloc
      (.cells #[.slice (some ⟨w.heap.size, 0, none⟩) 2 2, .slice (some ⟨w.heap.size + 1, 0, none⟩) 2 2] 31)).alloc (.cells #[.slice (some ⟨w.heap.size + 1 + 1, 0, none⟩) 2 2, .slice (some ⟨w.heap.size + 1 + 1 + 1, 0, none⟩) 2 2] 31)) := ⟨_, rfl⟩
  have e0 : W0.cell? ⟨w.heap.size + 1 + 1 + 1 + 1, 0, none⟩ = some (.slice (some ⟨w.heap.size, 0, none⟩) 2 2) := by rw [hW0]; simp [go_sem]
  have e1 : W0.cell? ⟨w.heap.size + 1 + 1 + 1 + 1, 1, none⟩ = some (.slice (some ⟨w.heap.size + 1, 0, none⟩) 2 2) := by rw [hW0]; simp [go_sem]
  have e2 : W0.cell? ⟨w.heap.size + 1 + 1 + 1 + 1 + 1, 0, none⟩ = some (.slice (some ⟨w.heap.size + 1 + 1, 0, none⟩) 2 2) := by rw [hW0]; simp [go_sem]
  have e3 : W0.cell? ⟨w.heap.size + 1 + 1 + 1 + 1 + 1, 1, none⟩ = some (.slice (some ⟨w.heap.size + 1 + 1 + 1, 0, none⟩) 2 2) := by rw [hW0]; simp [go_sem]
  have s1 : SlOf 1 RB W0 (some ⟨w.heap.size, 0, none⟩) lowR.on := bools_two (by rw [hW0]; simp [go_sem]) (by rw [hW0]; simp [go_sem])
  have s2 : SlOf 1 RI W0 (some ⟨w.heap.size + 1, 0, none⟩) lowR.level := nums_two (by rw [hW0]; simp [go_sem]) (by rw [hW0]; simp [go_sem]) (by unfold Wide; simp) (by unfold Wide; simp)
  have s3 : SlOf 1 RB W0 (some ⟨w.heap.size + 1 + 1, 0, none⟩) highR.on := bools_two (by rw [hW0]; simp [go_sem]) (by rw [hW0]; simp [go_sem])
  have s4 : SlOf 1 RI W0 (some ⟨w.heap.size + 1 + 1 + 1, 0, none⟩) highR.level := nums_two (by rw [hW0]; simp [go_sem]) (by rw [hW0]; simp [go_sem]) (by unfold Wide; simp) (by unfold Wide; simp)
  have S1 := Lib.hid s1
  have S2 := Lib.hid s2
  have S3 := Lib.hid s3
  have S4 := Lib.hid s4
  have E0 := Lib.hid e0
  have E1 := Lib.hid e1
  have E2 := Lib.hid e2
  have E3 := Lib.hid e3
  have GW : Hid (Gr w W0) := Lib.hid (by rw [hW0]; repeat (first | with_reducible exact Gr.refl _ | with_reducible refine Gr.alloc _ ?_ | with_reducible refine Gr.xt _ _ ?_ | with_reducible refine Gr.drew ?_))
  rw [← hW0]
  have x0 := has_of_cell e0
  have x1 := has_of_cell e2
  clear s1 s2 s3 s4 hW0
  go_cut [3, 4] (fun s3 s4 wx => ∃ ao cap, s3 = .slice ao 2 cap ∧ s4 = .int .i64 0 ∧ SlOf 3 RWri wx ao [⟨2, 0, 1⟩, ⟨2, 1, 1⟩] ∧ Gr W0 wx)
  case first =>
    go_region_with (first
      | (go_at_call 36; refine (two_any _).mono ?_; rintro e w' ⟨ao, cap, rfl, _, hf, hs, O, d, rfl⟩; (try simp only [xt_drew, xt_xt] at hs); have HS := Lib.hid hs; have HF := Lib.hid hf; clear hs hf; rw [show twoL.length = 2 from rfl])
      | (go_at_call 13; refine (plan_any twoL lowR highR [] ao _ _ _ _ none cap 2 2 2 2 0 _ (sups_gr HS.out (by repeat (first | with_reducible exact Gr.refl _ | with_reducible refine Gr.alloc _ ?_ | with_reducible refine Gr.xt _ _ ?_ | with_reducible refine Gr.drew ?_))) HF.out (S1.out.giB (by repeat (first | with_reducible exact Gr.refl _ | with_reducible refine Gr.alloc _ ?_ | with_reducible refine Gr.xt _ _ ?_ | with_reducible refine Gr.drew ?_))) (S2.out.giI (by repeat (first | with_reducible exact Gr.refl _ | with_reducible refine Gr.alloc _ ?_ | with_reducible refine Gr.xt _ _ ?_ | with_reducible refine Gr.drew ?_))) (S3.out.giB (by repeat (first | with_reducible exact Gr.refl _ | with_reducible refine Gr.alloc _ ?_ | with_reducible refine Gr.xt _ _ ?_ | with_reducible refine Gr.drew ?_))) (S4.out.giI (by repeat (first | with_reducible exact Gr.refl _ | with_reducible refine Gr.alloc _ ?_ | with_reducible refine Gr.xt _ _ ?_ | with_reducible refine Gr.drew ?_))) (SlOf.nil _ _ _ _) (by simp [lowR]) (by simp [lowR]) (by simp [highR]) (by simp [highR]) (by simp [lowR, Fit]) (by simp [lowR, Fit]) (by simp [highR, Fit]) (by simp [highR, Fit]) (by simp [Fit])).mono ?_; rw [two_up.1, two_up.2]; rintro e w' ⟨a3, c3, rfl, _, hs, O', d', rfl⟩; have HP := Lib.hid hs; clear hs; simp only [List.length_cons, List.length_nil, Nat.zero_add, Nat.reduceAdd]))
    all_goals (go_wp2_with fail; go_meet)
    all_goals exact ⟨a3, c3, rfl, rfl, HP.out, by repeat (first | with_reducible exact Gr.refl _ | with_reducible refine Gr.xt _ _ ?_)⟩
  obtain ⟨p1, k1, rfl, rfl, hs1, hg1⟩ := hcut
  have HS1 := Lib.hid hs1
  have G1 := Lib.hid hg1
  obtain ⟨W1, rfl⟩ : ∃ W1 : World, W1 = wc := ⟨_, rfl⟩
  replace e0 := cell_gr hg1 e0
  replace e1 := cell_gr hg1 e1
  replace e2 := cell_gr hg1 e2
  replace e3 := cell_gr hg1 e3
  replace x0 := has_of_cell e0
  replace x1 := has_of_cell e2
  clear hs1 hg1
  go_upto_region 3 with fail
  go_cut [5, 6] (fun s3 s4 wx => ∃ ao cap, s3 = .slice ao 2 cap ∧ s4 = .int .i64 0 ∧ SlOf 3 RWri wx ao [⟨2, 1, 0⟩, ⟨2, 0, 0⟩] ∧ Gr W1 wx)
  case first =>
    go_region_with (first
      | (go_at_call 36; refine (two_any _).mono ?_; rintro e w' ⟨ao, cap, rfl, _, hf, hs, O, d, rfl⟩; (try simp only [xt_drew, xt_xt] at hs); have HS := Lib.hid hs; have HF := Lib.hid hf; clear hs hf; rw [show twoL.length = 2 from rfl])
      | (go_at_call 13; refine (plan_any twoL highR lowR [] ao _ _ _ _ none cap 2 2 2 2 0 _ (sups_gr HS.out (by repeat (first | with_reducible exact Gr.refl _ | with_reducible refine Gr.alloc _ ?_ | with_reducible refine Gr.xt _ _ ?_ | with_reducible refine Gr.drew ?_))) HF.out (S3.out.giB (G1.out.trans (by repeat (first | with_reducible exact Gr.refl _ | with_reducible refine Gr.alloc _ ?_ | with_reducible refine Gr.xt _ _ ?_ | with_reducible refine Gr.drew ?_)))) (S4.out.giI (G1.out.trans (by repeat (first | with_reducible exact Gr.refl _ | with_reducible refine Gr.alloc _ ?_ | with_reducible refine Gr.xt _ _ ?_ | with_reducible refine Gr.drew ?_)))) (S1.out.giB (G1.out.trans (by repeat (first | with_reducible exact Gr.refl _ | with_reducible refine Gr.alloc _ ?_ | with_reducible refine Gr.xt _ _ ?_ | with_reducible refine Gr.drew ?_)))) (S2.out.giI (G1.out.trans (by repeat (first | with_reducible exact Gr.refl _ | with_reducible refine Gr.alloc _ ?_ | with_reducible refine Gr.xt _ _ ?_ | with_reducible refine Gr.drew ?_)))) (SlOf.nil _ _ _ _) (by simp [highR]) (by simp [highR]) (by simp [lowR]) (by simp [lowR]) (by simp [highR, Fit]) (by simp [highR, Fit]) (by simp [lowR, Fit]) (by simp [lowR, Fit]) (by simp [Fit])).mono ?_; rw [two_down.1, two_down.2]; rintro e w' ⟨a3, c3, rfl, _, hs, O', d', rfl⟩; have HP := Lib.hid hs; clear hs; simp only [List.length_cons, List.length_nil, Nat.zero_add, Nat.reduceAdd]))
    all_goals (go_wp2_with fail; go_meet)
    all_goals exact ⟨a3, c3, rfl, rfl, HP.out, by repeat (first | with_reducible exact Gr.refl _ | with_reducible refine Gr.xt _ _ ?_)⟩
  obtain ⟨p2, k2, rfl, rfl, hs2, hg2⟩ := hcut
  obtain ⟨b1, o1, rfl, ⟨y0, _⟩, ⟨y1, _⟩, ⟨y2, _⟩⟩ := HS1.out 0 (by simp)
  obtain ⟨b2, o2, rfl, ⟨z0, _⟩, ⟨z1, _⟩, ⟨z2, _⟩⟩ := hs2 0 (by simp)
  replace y0 := cell_gr hg2 y0
  replace y1 := cell_gr hg2 y1
  replace y2 := cell_gr hg2 y2
  simp only [List.getElem_cons_zero, Nat.zero_mul, Nat.add_zero] at y0 y1 y2 z0 z1 z2
  have G2 := Lib.hid hg2
  have x2 := has_of_cell y0
  have x3 := has_of_cell z0
  clear hs2 hg2
  go_wp2_with fail
  go_ret
  exact ⟨rfl, GW.out.trans (G1.out.trans G2.out)⟩
end Go.Proofs.Ytoenkcojfogmmaa
