/- awake of layer 9. -/
import Derived.Test.YtadldblpkgackaaGreatDoorUdE
import Derived.Test.YtadldblpkgackaaGreatDoorUeA
import Derived.Test.YtadldblpkgackaaGreatDoorUaB
set_option linter.unusedVariables false
set_option linter.unusedSimpArgs false
namespace Go.Proofs.YtadldblpkgackaaGreatDoor
open Go.RowKit
open Classical

def exRul : Rul := ⟨[99, 108, 111, 99, 107, 45, 102, 114, 101, 113, 117, 101, 110, 99, 121], true, 3, 1, 4000000000, 1, []⟩
theorem map_one {out : List SM} {s : Sch} (h : out.map SM.sch = [s]) : ∃ m, out = [m] ∧ m.sch = s := by
  match out, h with
  | [m], h => exact ⟨m, rfl, by simpa using h⟩
  | a :: b :: l, h => simp at h
set_option maxRecDepth 100000 in
set_option maxHeartbeats 8000000 in
theorem awake09_any (w : World) (h : Libs w) : Calls Tryz.prog 12 #[] w (Grows w (.bool true)) := by
  have H := Lib.hid h
  clear h
  have EX := Lib.hid exOk
  go_enter Tryz.func12, Tryz.ntmps12
  go_wp2_with fail
  refine (parse_any exText w H.out).mono ?_
  rintro e w1 ⟨hg, v, out, rfl, hoa, hsch⟩
  rw [EX.out] at hsch ⊢
  obtain ⟨a, c, rfl⟩ := owns_slice hoa.own
  obtain ⟨hn, hsl⟩ := hoa.sl
  rw [hsch] at hsl
  have hl : out.length = 1 := by have := congrArg List.length hsch; simpa using this
  rw [hl]
  obtain ⟨b, o, pa, pc, rfl, c0, c1, c2, hs⟩ := schs_at hsl 0 (by simp)
  obtain ⟨b2, o2, wa, wc, rfl, d0, d1, d2, d3, d4, d5, d6, hw⟩ := ruls_at hs 0 (by simp [exSch])
  have SW : Hid (SlOf 1 RS w1 wa exRul.words) := Lib.hid hw
  have HG := Lib.hid hg
  simp only [Nat.zero_mul, Nat.add_zero] at c0 c1 c2 d0 d1 d2 d3 d4 d5 d6
  have c1' : w1.cell? ⟨b, o + 1, none⟩ = some (.bool true) := c1
  have c2' : w1.cell? ⟨b, o + 2, none⟩ = some (.slice (some ⟨b2, o2, none⟩) 1 pc) := c2
  have d0' : w1.cell? ⟨b2, o2, none⟩ = some (.string (bs exRul.name)) := d0
  have d1' : w1.cell? ⟨b2, o2 + 1, none⟩ = some (.bool true) := d1
  have d2' : w1.cell? ⟨b2, o2 + 2, none⟩ = some (.int .i64 3) := d2
  have d3' : w1.cell? ⟨b2, o2 + 3, none⟩ = some (.int .i64 1) := d3
  have d4' : w1.cell? ⟨b2, o2 + 4, none⟩ = some (.int .i64 4000000000) := d4
  have d5' : w1.cell? ⟨b2, o2 + 5, none⟩ = some (.int .i64 1) := d5
  have d6' : w1.cell? ⟨b2, o2 + 6, none⟩ = some (.slice wa 0 wc) := d6
  have hh := has_of_cell c0
  have hh2 := has_of_cell d0
  have CL : Hid (∀ V, Gr w1 V → Calls Tryz.prog 43 #[.agg #[.string (bs exRul.name), .bool true, .int .i64 3, .int .i64 1, .int .i64 4000000000, .int .i64 1, .slice wa 0 wc], .agg #[.string (bs exRul.name), .bool true, .int .i64 3, .int .i64 1, .int .i64 4000000000, .int .i64 1, .slice none 0 0]] V (Grows V (.bool true))) := Lib.hid fun V hg => by
    have q := sameRule_any exRul exRul wa none wc 0 V (SW.out.gr RS.mono hg) (SlOf.nil _ _ _ _) (by simp [exRul]) (by simp [exRul])
    rw [decide_eq_true rfl] at q
    exact q
  clear c0 c1 c2 d0 d1 d2 d3 d4 d5 d6 hs hw hg hoa hsch hsl hn hl
  go_wp2_with fail
  refine (CL.out _ (Gr.refl _)).mono ?_
  rintro e w2 ⟨rfl, hg2⟩
  have G2 := Lib.hid (HG.out.trans hg2)
  clear hg2
  go_wp2_with fail
  go_ret
  exact ⟨rfl, G2.out⟩
end Go.Proofs.YtadldblpkgackaaGreatDoor
