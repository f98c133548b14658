/- The example of the chapter: sane. -/
import Derived.Test.YthpgoldahffbcaaHdR
import Derived.Test.YthpgoldahffbcaaHdU
import Derived.Test.YthpgoldahffbcaaHdI
import Derived.Test.YthpgoldahffbcaaHdP
set_option linter.unusedVariables false
set_option linter.unusedSimpArgs false
namespace Go.Proofs.Ythpgoldahffbcaa
open Go.RowKit
def saneX : List Hld := saneL ++ [⟨2, 1, 3⟩]
theorem saneL_wide : HsWide saneL := HsWide.of_mem fun x hx => by
  simp only [saneL, List.mem_cons, List.not_mem_nil, or_false] at hx
  rcases hx with rfl | rfl <;> (refine ⟨?_, ?_, ?_⟩ <;> unfold Wide <;> simp)
theorem saneX_wide : HsWide saneX := HsWide.of_mem fun x hx => by
  simp only [saneX, saneL, List.cons_append, List.nil_append, List.mem_cons, List.not_mem_nil, or_false] at hx
  rcases hx with rfl | rfl | rfl <;> (refine ⟨?_, ?_, ?_⟩ <;> unfold Wide <;> simp)
theorem sane_users : usersL saneL 3 = [0, 1] := by
  have e : devs (saneL.filter fun x : Hld => x.unit == 3) = [0, 1] := by decide
  rw [usersL, e, srt, List.mergeSort_of_pairwise (by simp)]
  decide
theorem sane_take1 (W : World) (B : Nat) (h : SlOf 3 RHld W (some ⟨B, 0, none⟩) saneL) :
    Calls Try.prog 14 #[.slice (some ⟨B, 0, none⟩) 2 2, .agg #[.int .i64 2, .int .i64 2, .int .i64 3]] W (GivesHE W [] 40) := by
  have := take_any saneL ⟨2, 2, 3⟩ (some ⟨B, 0, none⟩) 2 W h (by unfold Fit; decide) (by decide) (by refine ⟨?_, ?_, ?_⟩ <;> unfold Wide <;> simp)
  rwa [takeP_no (by rw [sane_own]; decide), sane_own] at this
theorem sane_take2 (W : World) (B : Nat) (h : SlOf 3 RHld W (some ⟨B, 0, none⟩) saneL) :
    Calls Try.prog 14 #[.slice (some ⟨B, 0, none⟩) 2 2, .agg #[.int .i64 2, .int .i64 1, .int .i64 3]] W (GivesHE W saneX 0) := by
  have := take_any saneL ⟨2, 1, 3⟩ (some ⟨B, 0, none⟩) 2 W h (by unfold Fit; decide) (by decide) (by refine ⟨?_, ?_, ?_⟩ <;> unfold Wide <;> simp)
  rwa [takeP_yes sane_ok, sane_ok] at this
theorem sane_valid2 (W : World) (B : Nat) (h : SlOf 3 RHld W (some ⟨B, 0, none⟩) saneL) :
    Calls Try.prog 12 #[.slice (some ⟨B, 0, none⟩) 2 2] W (Grows W (.int .i64 0)) := by
  have := valid_any saneL (some ⟨B, 0, none⟩) 2 W h (by unfold Fit; decide) (by decide)
  rwa [sane_valid] at this
theorem sane_users2 (W : World) (B : Nat) (h : SlOf 3 RHld W (some ⟨B, 0, none⟩) saneL) :
    Calls Try.prog 25 #[.slice (some ⟨B, 0, none⟩) 2 2, .int .i64 3] W (GivesI W [0, 1]) := by
  have := users_any 3 saneL (some ⟨B, 0, none⟩) 2 W h (by decide)
  rwa [sane_users] at this
theorem sane_ints (W : World) (a : Option Addr) (c B : Nat) (h : SlOf 1 RI W a [0, 1]) (h2 : SlOf 1 RI W (some ⟨B, 0, none⟩) [0, 1]) :
    Calls Try.prog 24 #[.slice a 2 c, .slice (some ⟨B, 0, none⟩) 2 2] W (Grows W (.bool true)) := by
  have := ints_any [0, 1] [0, 1] a (some ⟨B, 0, none⟩) c 2 W h h2 (by unfold Fit; decide) (by unfold Fit; decide)
  rwa [show decide (([0, 1] : List Int) = [0, 1]) = true by decide] at this
set_option maxHeartbeats 2000000 in
theorem sane_any (w : World) : Calls Try.prog 7 #[] w (Grows w (.bool true)) := by
  go_enter Try.func7, Try.ntmps7
  go_wp2_with fail
  have RL : Hid (SlOf 3 RHld (w.alloc (.cells #[.int .i64 0, .int .i64 1, .int .i64 3, .int .i64 1, .int .i64 1, .int .i64 3] 34)) (some ⟨w.heap.size, 0, none⟩) saneL) := Lib.hid ((Row.new w #[.int .i64 0, .int .i64 1, .int .i64 3, .int .i64 1, .int .i64 1, .int .i64 3] 34).s.slH (l := saneL) saneL_wide)
  have G0 : Hid (Gr w (w.alloc (.cells #[.int .i64 0, .int .i64 1, .int .i64 3, .int .i64 1, .int .i64 1, .int .i64 3] 34))) := Lib.hid ((Gr.refl _).alloc _)
  refine (sane_take1 _ _ RL.out).mono ?_
  rintro e W1 ⟨v1, rfl, -, hg⟩
  have L1 := Lib.hid (hlds_gr RL.out hg)
  have G1 := Lib.hid (G0.out.trans hg)
  clear hg RL G0
  go_wp2_with fail
  refine (sane_take2 _ _ L1.out).mono ?_
  rintro e W2 ⟨v2, rfl, ho, hg⟩
  obtain ⟨a2, c2, rfl, -, hown⟩ := owns_ownN ho
  have SX := Lib.hid (hown.slH saneX_wide)
  have L2 := Lib.hid (hlds_gr L1.out hg)
  have G2 := Lib.hid (G1.out.trans hg)
  clear ho hg hown
  go_wp2_with fail
  refine (return_any 1 saneX a2 c2 _ SX.out (by decide)).mono ?_
  rintro e W3 ⟨v3, v4, rfl, ho3, ho4, hg⟩
  obtain ⟨a3, c3, rfl, -, -⟩ := owns_ownN ho3
  have h4 : v4 = v4 := rfl
  obtain ⟨a4, c4, rfl, -, -⟩ := owns_ownN ho4
  have L3 := Lib.hid (hlds_gr L2.out hg)
  have G3 := Lib.hid (G2.out.trans hg)
  rw [show (saneX.filter (fun x : Hld => x.device != 1)).length = 2 from by decide, show (saneX.filter (fun x : Hld => x.device == 1)).length = 1 from by decide]
  clear ho3 ho4 hg h4
  go_wp2_with fail
  refine (sane_valid2 _ _ L3.out).mono ?_
  rintro e W4 ⟨rfl, hg⟩
  have L4 := Lib.hid (hlds_gr L3.out hg)
  have G4 := Lib.hid (G3.out.trans hg)
  clear hg
  go_wp2_with fail
  refine (sane_users2 _ _ L4.out).mono ?_
  rintro e W5 ⟨v5, rfl, ho5, hg⟩
  obtain ⟨a5, c5, rfl, -, hown⟩ := owns_ownN ho5
  have SI := Lib.hid (hown.slI (vs := [0, 1]) (by intro k hk; simp at hk; unfold Wide; rcases k with _ | _ | k <;> simp; omega))
  have G5 := Lib.hid (G4.out.trans hg)
  clear ho5 hg hown
  go_wp2_with fail
  refine (sane_ints _ a5 c5 _ (SI.out.giI ((Gr.refl _).alloc _)) ((Row.new W5 #[.int .i64 0, .int .i64 1] 3).s.slI (vs := [0, 1]) (by intro k hk; simp at hk; unfold Wide; rcases k with _ | _ | k <;> simp; omega))).mono ?_
  rintro e W6 ⟨rfl, hg⟩
  have G6 := Lib.hid (G5.out.trans (Gr.trans ((Gr.refl _).alloc _) hg))
  clear hg
  go_wp2_with fail
  go_ret
  exact ⟨rfl, G6.out⟩
end Go.Proofs.Ythpgoldahffbcaa
