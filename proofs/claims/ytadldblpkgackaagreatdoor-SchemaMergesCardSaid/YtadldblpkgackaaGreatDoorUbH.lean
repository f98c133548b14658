/- A statement of schema.readHead by an invariant (printed by wip/tools/uah.py). -/
import Derived.Test.YtadldblpkgackaaGreatDoorUbF
set_option linter.unusedVariables false
set_option linter.unusedSimpArgs false
namespace Go.Proofs.YtadldblpkgackaaGreatDoor
open Go.RowKit
open Classical

/-- What is known of each slot as soon as its operation is done. -/
def rh5F (wr w0 : World) (c : St) (b : Bool) (RB NB : Nat) (t3 t24 t25 t26 t27 t28 t29 t30 t31 t32 t33 : Value) (d : Array Bool) (w : World) : Prop :=
  (Gr w0 w ∧ Row w NB 24 [.string (bs c), .bool b, .slice none 0 0] ∧ (d.getD 10 false = false → Row w RB 24 [.string ⟨#[]⟩, .bool false, .slice none 0 0])) ∧ (d.getD 0 false = true → t24 = .agg #[.string (bs c), .bool b, .slice none 0 0]) ∧
  (d.getD 1 false = true → t25 = .pointer (some ⟨NB, 0, none⟩)) ∧
  (d.getD 2 false = true → t26 = .string (bs c)) ∧
  (d.getD 3 false = true → t27 = .bool false) ∧
  (d.getD 4 false = true → t28 = .bool false) ∧
  (d.getD 5 false = true → True) ∧
  (d.getD 6 false = true → True) ∧
  (d.getD 7 false = true → True) ∧
  (d.getD 8 false = true → True) ∧
  (d.getD 9 false = true → t33 = .bool false) ∧
  (d.getD 10 false = true → (d.getD 0 false = true ∧ Row w RB 24 [.string (bs c), .bool b, .slice none 0 0])) ∧
  (d.getD 11 false = true → t3 = .bool false)
/-- The frame. -/
def rh5A (RB NB : Nat) (t3 t24 t25 t26 t27 t28 t29 t30 t31 t32 t33 s0 s1 s4 s6 s7 s8 s9 s10 s11 s12 s13 s14 s15 s16 s17 s18 s19 s20 s21 s22 s23 : Value) : Act := { tmps := #[s0, s1, .pointer (some ⟨RB, 0, none⟩), t3, s4, .pointer (some ⟨NB, 0, none⟩), s6, s7, s8, s9, s10, s11, s12, s13, s14, s15, s16, s17, s18, s19, s20, s21, s22, s23, t24, t25, t26, t27, t28, t29, t30, t31, t32, t33], defers := [] }

set_option maxRecDepth 100000 in
set_option maxHeartbeats 4000000 in
theorem rh5 {Q : Exit → Act → World → Prop} {wr w0 : World} {c : St} {b : Bool} {RB NB : Nat}  {s0 s1 s3 s4 s6 s7 s8 s9 s10 s11 s12 s13 s14 s15 s16 s17 s18 s19 s20 s21 s22 s23 s24 s25 s26 s27 s28 s29 s30 s31 s32 s33 : Value} (hg0 : Gr w0 wr) (hbox : Row wr NB 24 [.string (bs c), .bool b, .slice none 0 0]) (hro : Row wr RB 24 [.string ⟨#[]⟩, .bool false, .slice none 0 0]) (hne : RB ≠ NB) (hs : w0.heap.size ≤ RB) (hv : ∀ W, Calls Tryz.prog 35 #[.string (bs c)] W fun e w' => e = .returned (.bool false) ∧ W = w')
    (h' : ∀ t3 t24 t25 t26 t27 t28 t29 t30 t31 t32 t33 wx, t3 = .bool false → Row wx RB 24 [.string (bs c), .bool b, .slice none 0 0] → Gr w0 wx → Q .normal (rh5A RB NB t3 t24 t25 t26 t27 t28 t29 t30 t31 t32 t33 s0 s1 s4 s6 s7 s8 s9 s10 s11 s12 s13 s14 s15 s16 s17 s18 s19 s20 s21 s22 s23) wx) :
    (Code.region 5 (regIn 5 Tryz.f30) true).wp Tryz.prog Q { tmps := #[s0, s1, .pointer (some ⟨RB, 0, none⟩), s3, s4, .pointer (some ⟨NB, 0, none⟩), s6, s7, s8, s9, s10, s11, s12, s13, s14, s15, s16, s17, s18, s19, s20, s21, s22, s23, s24, s25, s26, s27, s28, s29, s30, s31, s32, s33], defers := [] } wr := by
  have BX := PLift.up hbox
  have RO := PLift.up hro
  have HN := PLift.up hne
  have HS := PLift.up hs
  have HV := PLift.up hv
  clear hbox hro hne hs hv
  simp only [regIn, Tryz.f30, regOps, Option.bind_some, Option.getD_some, Nat.beq, cond_true, cond_false]
  refine wp_region_steps (fun done a w => ∃ t3 t24 t25 t26 t27 t28 t29 t30 t31 t32 t33, a = rh5A RB NB t3 t24 t25 t26 t27 t28 t29 t30 t31 t32 t33 s0 s1 s4 s6 s7 s8 s9 s10 s11 s12 s13 s14 s15 s16 s17 s18 s19 s20 s21 s22 s23 ∧ rh5F wr w0 c b RB NB t3 t24 t25 t26 t27 t28 t29 t30 t31 t32 t33 done w) (by kernel_rfl) (by kernel_rfl) ?_ ⟨?_, ?_, ?_, ?_, ?_, ?_, ?_, ?_, ?_, ?_, ?_, ?_, trivial⟩ ?_
  · exact ⟨s3, s24, s25, s26, s27, s28, s29, s30, s31, s32, s33, rfl, ⟨hg0.drew, BX.down.drew, fun _ => RO.down.drew⟩, fun q => absurd q (by decide), fun q => absurd q (by decide), fun q => absurd q (by decide), fun q => absurd q (by decide), fun q => absurd q (by decide), fun q => absurd q (by decide), fun q => absurd q (by decide), fun q => absurd q (by decide), fun q => absurd q (by decide), fun q => absurd q (by decide), fun q => absurd q (by decide), fun q => absurd q (by decide)⟩
  · rintro done a w hsz hnot hdep ⟨t3, t24, t25, t26, t27, t28, t29, t30, t31, t32, t33, rfl, ⟨gw, gx⟩, f0, f1, f2, f3, f4, f5, f6, f7, f8, f9, f10, f11⟩ K hK
    have hn : ¬ done.getD 0 false = true := by rw [getD_both hnot]; decide
    have c0 : w.cell? ⟨NB, 0, none⟩ = some (.string (bs c)) := gx.1.cell 0 (by simp)
    have c1 : w.cell? ⟨NB, 1, none⟩ = some (.bool b) := gx.1.cell 1 (by simp)
    have c2 : w.cell? ⟨NB, 2, none⟩ = some (.slice none 0 0) := gx.1.cell 2 (by simp)
    have ch := has_of_cell c0
    have HK := PLift.up hK
    clear hK 
    simp only [rh5A]
    go_simp
    have gg : Gr w w := Gr.refl _
    refine HK.down _ _ ⟨_, _, _, _, _, _, _, _, _, _, _, rfl, ⟨gw, gx.1, fun q => gx.2 (by rw [getD_set_ne false (by decide)] at q; exact q)⟩, fun _ => rfl, fun q => f1 (done_old q (by decide)), fun q => f2 (done_old q (by decide)), fun q => f3 (done_old q (by decide)), fun q => f4 (done_old q (by decide)), fun q => f5 (done_old q (by decide)), fun q => f6 (done_old q (by decide)), fun q => f7 (done_old q (by decide)), fun q => f8 (done_old q (by decide)), fun q => f9 (done_old q (by decide)), fun q => absurd (f10 (done_old q (by decide))).1 hn, fun q => f11 (done_old q (by decide))⟩
  · rintro done a w hsz hnot hdep ⟨t3, t24, t25, t26, t27, t28, t29, t30, t31, t32, t33, rfl, ⟨gw, gx⟩, f0, f1, f2, f3, f4, f5, f6, f7, f8, f9, f10, f11⟩ K hK
    have hn : ¬ done.getD 1 false = true := by rw [getD_both hnot]; decide
    have HK := PLift.up hK
    clear hK 
    simp only [rh5A]
    go_simp
    have gg : Gr w w := Gr.refl _
    refine HK.down _ _ ⟨_, _, _, _, _, _, _, _, _, _, _, rfl, ⟨gw, gx.1, fun q => gx.2 (by rw [getD_set_ne false (by decide)] at q; exact q)⟩, fun q => f0 (done_old q (by decide)), fun _ => rfl, fun q => f2 (done_old q (by decide)), fun q => f3 (done_old q (by decide)), fun q => f4 (done_old q (by decide)), fun q => f5 (done_old q (by decide)), fun q => f6 (done_old q (by decide)), fun q => f7 (done_old q (by decide)), fun q => f8 (done_old q (by decide)), fun q => f9 (done_old q (by decide)), fun q => ⟨getD_set_true (f10 (done_old q (by decide))).1, (f10 (done_old q (by decide))).2.gr gg⟩, fun q => f11 (done_old q (by decide))⟩
  · rintro done a w hsz hnot hdep ⟨t3, t24, t25, t26, t27, t28, t29, t30, t31, t32, t33, rfl, ⟨gw, gx⟩, f0, f1, f2, f3, f4, f5, f6, f7, f8, f9, f10, f11⟩ K hK
    have hn : ¬ done.getD 2 false = true := by rw [getD_both hnot]; decide
    have d1 := hdep 1 (by kernel_rfl)
    obtain rfl := f1 d1
    have c0 : w.cell? ⟨NB, 0, none⟩ = some (.string (bs c)) := gx.1.cell 0 (by simp)
    have c1 : w.cell? ⟨NB, 1, none⟩ = some (.bool b) := gx.1.cell 1 (by simp)
    have c2 : w.cell? ⟨NB, 2, none⟩ = some (.slice none 0 0) := gx.1.cell 2 (by simp)
    have ch := has_of_cell c0
    have HK := PLift.up hK
    clear hK d1
    simp only [rh5A]
    go_simp
    have gg : Gr w w := Gr.refl _
    refine HK.down _ _ ⟨_, _, _, _, _, _, _, _, _, _, _, rfl, ⟨gw, gx.1, fun q => gx.2 (by rw [getD_set_ne false (by decide)] at q; exact q)⟩, fun q => f0 (done_old q (by decide)), fun q => f1 (done_old q (by decide)), fun _ => rfl, fun q => f3 (done_old q (by decide)), fun q => f4 (done_old q (by decide)), fun q => f5 (done_old q (by decide)), fun q => f6 (done_old q (by decide)), fun q => f7 (done_old q (by decide)), fun q => f8 (done_old q (by decide)), fun q => f9 (done_old q (by decide)), fun q => ⟨getD_set_true (f10 (done_old q (by decide))).1, (f10 (done_old q (by decide))).2.gr gg⟩, fun q => f11 (done_old q (by decide))⟩
  · rintro done a w hsz hnot hdep ⟨t3, t24, t25, t26, t27, t28, t29, t30, t31, t32, t33, rfl, ⟨gw, gx⟩, f0, f1, f2, f3, f4, f5, f6, f7, f8, f9, f10, f11⟩ K hK
    have hn : ¬ done.getD 3 false = true := by rw [getD_both hnot]; decide
    have d2 := hdep 2 (by kernel_rfl)
    obtain rfl := f2 d2
    have HK := PLift.up hK
    clear hK d2
    simp only [rh5A]
    go_simp
    refine (HV.down w).mono ?_
    rintro e w2 ⟨rfl, rfl⟩
    (try go_simp)
    have gg : Gr w w := Gr.refl _
    refine HK.down _ _ ⟨_, _, _, _, _, _, _, _, _, _, _, rfl, ⟨gw, gx.1, fun q => gx.2 (by rw [getD_set_ne false (by decide)] at q; exact q)⟩, fun q => f0 (done_old q (by decide)), fun q => f1 (done_old q (by decide)), fun q => f2 (done_old q (by decide)), fun _ => rfl, fun q => f4 (done_old q (by decide)), fun q => f5 (done_old q (by decide)), fun q => f6 (done_old q (by decide)), fun q => f7 (done_old q (by decide)), fun q => f8 (done_old q (by decide)), fun q => f9 (done_old q (by decide)), fun q => ⟨getD_set_true (f10 (done_old q (by decide))).1, (f10 (done_old q (by decide))).2.gr gg⟩, fun q => f11 (done_old q (by decide))⟩
  · rintro done a w hsz hnot hdep ⟨t3, t24, t25, t26, t27, t28, t29, t30, t31, t32, t33, rfl, ⟨gw, gx⟩, f0, f1, f2, f3, f4, f5, f6, f7, f8, f9, f10, f11⟩ K hK
    have hn : ¬ done.getD 4 false = true := by rw [getD_both hnot]; decide
    have d3 := hdep 3 (by kernel_rfl)
    obtain rfl := f3 d3
    have HK := PLift.up hK
    clear hK d3
    simp only [rh5A]
    go_simp
    have gg : Gr w w := Gr.refl _
    refine HK.down _ _ ⟨_, _, _, _, _, _, _, _, _, _, _, rfl, ⟨gw, gx.1, fun q => gx.2 (by rw [getD_set_ne false (by decide)] at q; exact q)⟩, fun q => f0 (done_old q (by decide)), fun q => f1 (done_old q (by decide)), fun q => f2 (done_old q (by decide)), fun q => f3 (done_old q (by decide)), fun _ => rfl, fun q => f5 (done_old q (by decide)), fun q => f6 (done_old q (by decide)), fun q => f7 (done_old q (by decide)), fun q => f8 (done_old q (by decide)), fun q => f9 (done_old q (by decide)), fun q => ⟨getD_set_true (f10 (done_old q (by decide))).1, (f10 (done_old q (by decide))).2.gr gg⟩, fun q => f11 (done_old q (by decide))⟩
  · rintro done a w hsz hnot hdep ⟨t3, t24, t25, t26, t27, t28, t29, t30, t31, t32, t33, rfl, ⟨gw, gx⟩, f0, f1, f2, f3, f4, f5, f6, f7, f8, f9, f10, f11⟩ K hK
    have hn : ¬ done.getD 5 false = true := by rw [getD_both hnot]; decide
    have d4 := hdep 4 (by kernel_rfl)
    obtain rfl := f4 d4
    have HK := PLift.up hK
    clear hK d4
    simp only [rh5A]
    go_simp
    have gg : Gr w w := Gr.refl _
    refine HK.down _ _ ⟨_, _, _, _, _, _, _, _, _, _, _, rfl, ⟨gw, gx.1, fun q => gx.2 (by rw [getD_set_ne false (by decide)] at q; exact q)⟩, fun q => f0 (done_old q (by decide)), fun q => f1 (done_old q (by decide)), fun q => f2 (done_old q (by decide)), fun q => f3 (done_old q (by decide)), fun q => f4 (done_old q (by decide)), ?_, fun q => f6 (done_old q (by decide)), fun q => f7 (done_old q (by decide)), fun q => f8 (done_old q (by decide)), fun q => f9 (done_old q (by decide)), fun q => ⟨getD_set_true (f10 (done_old q (by decide))).1, (f10 (done_old q (by decide))).2.gr gg⟩, fun q => f11 (done_old q (by decide))⟩
    exact fun _ => trivial
  · rintro done a w hsz hnot hdep ⟨t3, t24, t25, t26, t27, t28, t29, t30, t31, t32, t33, rfl, ⟨gw, gx⟩, f0, f1, f2, f3, f4, f5, f6, f7, f8, f9, f10, f11⟩ K hK
    have hn : ¬ done.getD 6 false = true := by rw [getD_both hnot]; decide
    have d4 := hdep 4 (by kernel_rfl)
    obtain rfl := f4 d4
    have HK := PLift.up hK
    clear hK d4
    simp only [rh5A]
    go_simp
    have gg : Gr w w := Gr.refl _
    refine HK.down _ _ ⟨_, _, _, _, _, _, _, _, _, _, _, rfl, ⟨gw, gx.1, fun q => gx.2 (by rw [getD_set_ne false (by decide)] at q; exact q)⟩, fun q => f0 (done_old q (by decide)), fun q => f1 (done_old q (by decide)), fun q => f2 (done_old q (by decide)), fun q => f3 (done_old q (by decide)), fun q => f4 (done_old q (by decide)), fun q => f5 (done_old q (by decide)), ?_, fun q => f7 (done_old q (by decide)), fun q => f8 (done_old q (by decide)), fun q => f9 (done_old q (by decide)), fun q => ⟨getD_set_true (f10 (done_old q (by decide))).1, (f10 (done_old q (by decide))).2.gr gg⟩, fun q => f11 (done_old q (by decide))⟩
    exact fun _ => trivial
  · rintro done a w hsz hnot hdep ⟨t3, t24, t25, t26, t27, t28, t29, t30, t31, t32, t33, rfl, ⟨gw, gx⟩, f0, f1, f2, f3, f4, f5, f6, f7, f8, f9, f10, f11⟩ K hK
    have hn : ¬ done.getD 7 false = true := by rw [getD_both hnot]; decide
    have d4 := hdep 4 (by kernel_rfl)
    obtain rfl := f4 d4
    have HK := PLift.up hK
    clear hK d4
    simp only [rh5A]
    go_simp
    have gg : Gr w w := Gr.refl _
    refine HK.down _ _ ⟨_, _, _, _, _, _, _, _, _, _, _, rfl, ⟨gw, gx.1, fun q => gx.2 (by rw [getD_set_ne false (by decide)] at q; exact q)⟩, fun q => f0 (done_old q (by decide)), fun q => f1 (done_old q (by decide)), fun q => f2 (done_old q (by decide)), fun q => f3 (done_old q (by decide)), fun q => f4 (done_old q (by decide)), fun q => f5 (done_old q (by decide)), fun q => f6 (done_old q (by decide)), ?_, fun q => f8 (done_old q (by decide)), fun q => f9 (done_old q (by decide)), fun q => ⟨getD_set_true (f10 (done_old q (by decide))).1, (f10 (done_old q (by decide))).2.gr gg⟩, fun q => f11 (done_old q (by decide))⟩
    exact fun _ => trivial
  · rintro done a w hsz hnot hdep ⟨t3, t24, t25, t26, t27, t28, t29, t30, t31, t32, t33, rfl, ⟨gw, gx⟩, f0, f1, f2, f3, f4, f5, f6, f7, f8, f9, f10, f11⟩ K hK
    have hn : ¬ done.getD 8 false = true := by rw [getD_both hnot]; decide
    have d4 := hdep 4 (by kernel_rfl)
    obtain rfl := f4 d4
    have HK := PLift.up hK
    clear hK d4
    simp only [rh5A]
    go_simp
    have gg : Gr w w := Gr.refl _
    refine HK.down _ _ ⟨_, _, _, _, _, _, _, _, _, _, _, rfl, ⟨gw, gx.1, fun q => gx.2 (by rw [getD_set_ne false (by decide)] at q; exact q)⟩, fun q => f0 (done_old q (by decide)), fun q => f1 (done_old q (by decide)), fun q => f2 (done_old q (by decide)), fun q => f3 (done_old q (by decide)), fun q => f4 (done_old q (by decide)), fun q => f5 (done_old q (by decide)), fun q => f6 (done_old q (by decide)), fun q => f7 (done_old q (by decide)), ?_, fun q => f9 (done_old q (by decide)), fun q => ⟨getD_set_true (f10 (done_old q (by decide))).1, (f10 (done_old q (by decide))).2.gr gg⟩, fun q => f11 (done_old q (by decide))⟩
    exact fun _ => trivial
  · rintro done a w hsz hnot hdep ⟨t3, t24, t25, t26, t27, t28, t29, t30, t31, t32, t33, rfl, ⟨gw, gx⟩, f0, f1, f2, f3, f4, f5, f6, f7, f8, f9, f10, f11⟩ K hK
    have hn : ¬ done.getD 9 false = true := by rw [getD_both hnot]; decide
    have d4 := hdep 4 (by kernel_rfl)
    obtain rfl := f4 d4
    have HK := PLift.up hK
    clear hK d4
    simp only [rh5A]
    go_simp
    have gg : Gr w w := Gr.refl _
    refine HK.down _ _ ⟨_, _, _, _, _, _, _, _, _, _, _, rfl, ⟨gw, gx.1, fun q => gx.2 (by rw [getD_set_ne false (by decide)] at q; exact q)⟩, fun q => f0 (done_old q (by decide)), fun q => f1 (done_old q (by decide)), fun q => f2 (done_old q (by decide)), fun q => f3 (done_old q (by decide)), fun q => f4 (done_old q (by decide)), fun q => f5 (done_old q (by decide)), fun q => f6 (done_old q (by decide)), fun q => f7 (done_old q (by decide)), fun q => f8 (done_old q (by decide)), fun _ => rfl, fun q => ⟨getD_set_true (f10 (done_old q (by decide))).1, (f10 (done_old q (by decide))).2.gr gg⟩, fun q => f11 (done_old q (by decide))⟩
  · rintro done a w hsz hnot hdep ⟨t3, t24, t25, t26, t27, t28, t29, t30, t31, t32, t33, rfl, ⟨gw, gx⟩, f0, f1, f2, f3, f4, f5, f6, f7, f8, f9, f10, f11⟩ K hK
    have hn : ¬ done.getD 10 false = true := by rw [getD_both hnot]; decide
    have d0 := hdep 0 (by kernel_rfl)
    obtain rfl := f0 d0
    have n10 := getD_both hnot
    have ro := gx.2 n10
    have r0 : w.cell? ⟨RB, 0, none⟩ = some (.string ⟨#[]⟩) := ro.cell 0 (by simp)
    have r1 : w.cell? ⟨RB, 1, none⟩ = some (.bool false) := ro.cell 1 (by simp)
    have r2 : w.cell? ⟨RB, 2, none⟩ = some (.slice none 0 0) := ro.cell 2 (by simp)
    have q0 := ro.free 0
    have q1 := ro.free 1
    have q2 := ro.free 2
    have ch := has_of_cell r0
    have D0 := PLift.up d0
    have RN := PLift.up (show Row (((w.setCell ⟨RB, 0, none⟩ (.string (bs c))).setCell ⟨RB, 1, none⟩ (.bool b)).setCell ⟨RB, 2, none⟩ (.slice none 0 0)) RB 24 [.string (bs c), .bool b, .slice none 0 0] from ((ro.set 0 _).set 1 _).set 2 _)
    have BN := PLift.up (show Row (((w.setCell ⟨RB, 0, none⟩ (.string (bs c))).setCell ⟨RB, 1, none⟩ (.bool b)).setCell ⟨RB, 2, none⟩ (.slice none 0 0)) NB 24 [.string (bs c), .bool b, .slice none 0 0] from ((gx.1.oth HN.down).oth HN.down).oth HN.down)
    have GN := PLift.up (show Gr w0 (((w.setCell ⟨RB, 0, none⟩ (.string (bs c))).setCell ⟨RB, 1, none⟩ (.bool b)).setCell ⟨RB, 2, none⟩ (.slice none 0 0)) from ((gw.setc HS.down).setc HS.down).setc HS.down)
    clear ro
    have HK := PLift.up hK
    clear hK d0
    simp only [rh5A]
    go_simp
    refine HK.down _ _ ⟨_, _, _, _, _, _, _, _, _, _, _, rfl, ⟨GN.down, BN.down, fun q => absurd q (by rw [getD_set_same (by rw [hsz]; decide)]; decide)⟩, fun q => f0 (done_old q (by decide)), fun q => f1 (done_old q (by decide)), fun q => f2 (done_old q (by decide)), fun q => f3 (done_old q (by decide)), fun q => f4 (done_old q (by decide)), fun q => f5 (done_old q (by decide)), fun q => f6 (done_old q (by decide)), fun q => f7 (done_old q (by decide)), fun q => f8 (done_old q (by decide)), fun q => f9 (done_old q (by decide)), ?_, fun q => f11 (done_old q (by decide))⟩
    exact fun _ => ⟨getD_set_true D0.down, RN.down⟩
  · rintro done a w hsz hnot hdep ⟨t3, t24, t25, t26, t27, t28, t29, t30, t31, t32, t33, rfl, ⟨gw, gx⟩, f0, f1, f2, f3, f4, f5, f6, f7, f8, f9, f10, f11⟩ K hK
    have hn : ¬ done.getD 11 false = true := by rw [getD_both hnot]; decide
    have d9 := hdep 9 (by kernel_rfl)
    obtain rfl := f9 d9
    have HK := PLift.up hK
    clear hK d9
    simp only [rh5A]
    go_simp
    have gg : Gr w w := Gr.refl _
    refine HK.down _ _ ⟨_, _, _, _, _, _, _, _, _, _, _, rfl, ⟨gw, gx.1, fun q => gx.2 (by rw [getD_set_ne false (by decide)] at q; exact q)⟩, fun q => f0 (done_old q (by decide)), fun q => f1 (done_old q (by decide)), fun q => f2 (done_old q (by decide)), fun q => f3 (done_old q (by decide)), fun q => f4 (done_old q (by decide)), fun q => f5 (done_old q (by decide)), fun q => f6 (done_old q (by decide)), fun q => f7 (done_old q (by decide)), fun q => f8 (done_old q (by decide)), fun q => f9 (done_old q (by decide)), fun q => ⟨getD_set_true (f10 (done_old q (by decide))).1, (f10 (done_old q (by decide))).2.gr gg⟩, fun _ => rfl⟩
  · rintro done a w hall ⟨t3, t24, t25, t26, t27, t28, t29, t30, t31, t32, t33, rfl, ⟨gw, gx⟩, f0, f1, f2, f3, f4, f5, f6, f7, f8, f9, f10, f11⟩
    exact h' _ _ _ _ _ _ _ _ _ _ _ w (f11 (hall 11 (by decide))) (f10 (hall 10 (by decide))).2 gw
end Go.Proofs.YtadldblpkgackaaGreatDoor
