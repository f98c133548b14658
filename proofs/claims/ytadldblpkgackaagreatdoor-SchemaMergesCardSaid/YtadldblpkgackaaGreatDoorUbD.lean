/- A statement of schema.words by an invariant (printed by wip/tools/uae.py). -/
import Derived.Test.YtadldblpkgackaaGreatDoorUbC
import Derived.Test.YtadldblpkgackaaGreatDoorUbK
set_option linter.unusedVariables false
set_option linter.unusedSimpArgs false
namespace Go.Proofs.YtadldblpkgackaaGreatDoor
open Go.RowKit
open Classical

theorem infoStr : (Tryz.prog.info? 9).map (fun i => (i.zero, i.size, i.bytes)) = some (some (.string ⟨#[]⟩), 1, 16) := by kernel_rfl
def strV (l : List St) : List Value := l.map (fun s => Value.string (bs s))
theorem strV_one (l : List St) : ∀ u ∈ strV l, u.oneCell' = true := by
  intro u hu
  obtain ⟨x, _, rfl⟩ := List.mem_map.1 hu
  rfl
theorem itoa_len {n : Int} (h0 : 0 ≤ n) (h1 : n ≤ 4294967295) : (Lib.itoa n).length ≤ 21 := Lib.itoa_length_le n (by omega) (by omega)
/-- What is known of each slot as soon as its operation is done. -/
def wd6F (wr wb : World) (x : Value) (zs : List St) (lo hi : Int) (RB : Nat) (v0 v1 v2 v5 v6 : Value) (t3 t22 t23 t24 t25 t26 t27 t28 t29 t30 t31 t32 : Value) (d : Array Bool) (w : World) : Prop :=
  (Gr wb w ∧ (d.getD 11 false = false → t3 = x) ∧ (d.getD 10 false = false → w.ownsRow wb.heap.size 9 1 x zs.length (strV zs)) ∧ Row w RB 28 [v0, v1, v2, .int .i64 lo, .int .i64 hi, v5, v6]) ∧ (d.getD 0 false = true → t22 = x) ∧
  (d.getD 1 false = true → t23 = .pointer (some ⟨RB, 3, none⟩)) ∧
  (d.getD 2 false = true → t24 = .int .i64 lo) ∧
  (d.getD 3 false = true → t25 = .string (bs (Lib.itoa lo))) ∧
  (d.getD 4 false = true → t26 = .string (bs (Lib.itoa lo ++ [46, 46]))) ∧
  (d.getD 5 false = true → t27 = .pointer (some ⟨RB, 4, none⟩)) ∧
  (d.getD 6 false = true → t28 = .int .i64 hi) ∧
  (d.getD 7 false = true → t29 = .string (bs (Lib.itoa hi))) ∧
  (d.getD 8 false = true → t30 = .string (bs (Lib.itoa lo ++ 46 :: 46 :: Lib.itoa hi))) ∧
  (d.getD 9 false = true → ∃ B, t31 = .slice (some ⟨B, 0, none⟩) 1 1 ∧ (d.getD 10 false = false → Row w B 9 (strV [(Lib.itoa lo ++ 46 :: 46 :: Lib.itoa hi)]))) ∧
  (d.getD 10 false = true → (d.getD 0 false = true ∧ d.getD 9 false = true) ∧ w.ownsRow wb.heap.size 9 1 t32 (zs.length + 1) (strV (zs ++ [(Lib.itoa lo ++ 46 :: 46 :: Lib.itoa hi)]))) ∧
  (d.getD 11 false = true → d.getD 10 false = true ∧ t3 = t32)
/-- The frame. -/
def wd6A (RB : Nat) (t3 t22 t23 t24 t25 t26 t27 t28 t29 t30 t31 t32 s0 s2 s4 s5 s6 s7 s8 s9 s10 s11 s12 s13 s14 s15 s16 s17 s18 s19 s20 s21 s33 s34 s35 s36 s37 s38 s39 s40 s41 s42 s43 s44 s45 s46 : Value) : Act := { tmps := #[s0, .pointer (some ⟨RB, 0, none⟩), s2, t3, s4, s5, s6, s7, s8, s9, s10, s11, s12, s13, s14, s15, s16, s17, s18, s19, s20, s21, t22, t23, t24, t25, t26, t27, t28, t29, t30, t31, t32, s33, s34, s35, s36, s37, s38, s39, s40, s41, s42, s43, s44, s45, s46], defers := [] }

set_option maxRecDepth 100000 in
set_option maxHeartbeats 4000000 in
theorem wd6 {Q : Exit → Act → World → Prop} {wr wb : World} {x : Value} {zs : List St} {lo hi : Int} {RB : Nat} {v0 v1 v2 v5 v6 : Value}  {s0 s2 s4 s5 s6 s7 s8 s9 s10 s11 s12 s13 s14 s15 s16 s17 s18 s19 s20 s21 s22 s23 s24 s25 s26 s27 s28 s29 s30 s31 s32 s33 s34 s35 s36 s37 s38 s39 s40 s41 s42 s43 s44 s45 s46 : Value} (h : wr.ownsRow wb.heap.size 9 1 x zs.length (strV zs)) (hg0 : Gr wb wr) (hn2 : zs.length ≤ 1000000) (hbox : Row wr RB 28 [v0, v1, v2, .int .i64 lo, .int .i64 hi, v5, v6]) (hb : 0 ≤ lo ∧ lo ≤ 4294967295 ∧ 0 ≤ hi ∧ hi ≤ 4294967295) (hp : Pow wb)
    (h' : ∀ t3 t22 t23 t24 t25 t26 t27 t28 t29 t30 t31 t32 wx, wx.ownsRow wb.heap.size 9 1 t3 (zs.length + 1) (strV (zs ++ [(Lib.itoa lo ++ 46 :: 46 :: Lib.itoa hi)])) → Row wx RB 28 [v0, v1, v2, .int .i64 lo, .int .i64 hi, v5, v6] → Gr wb wx → Q .normal (wd6A RB t3 t22 t23 t24 t25 t26 t27 t28 t29 t30 t31 t32 s0 s2 s4 s5 s6 s7 s8 s9 s10 s11 s12 s13 s14 s15 s16 s17 s18 s19 s20 s21 s33 s34 s35 s36 s37 s38 s39 s40 s41 s42 s43 s44 s45 s46) wx) :
    (Code.region 6 (regIn 6 Tryz.f48) true).wp Tryz.prog Q { tmps := #[s0, .pointer (some ⟨RB, 0, none⟩), s2, x, s4, s5, s6, s7, s8, s9, s10, s11, s12, s13, s14, s15, s16, s17, s18, s19, s20, s21, s22, s23, s24, s25, s26, s27, s28, s29, s30, s31, s32, s33, s34, s35, s36, s37, s38, s39, s40, s41, s42, s43, s44, s45, s46], defers := [] } wr := by
  have H := PLift.up h
  have BX := PLift.up hbox
  have HB := PLift.up hb
  have HP := PLift.up hp
  have L1 := PLift.up (itoa_len hb.1 hb.2.1)
  have L2 := PLift.up (itoa_len hb.2.2.1 hb.2.2.2)
  clear h hbox hb hp
  obtain ⟨j0, hj, hy0, hy1, hy2⟩ := info_parts infoStr
  simp only [regIn, Tryz.f48, regOps, Option.bind_some, Option.getD_some, Nat.beq, cond_true, cond_false]
  refine wp_region_steps (fun done a w => ∃ t3 t22 t23 t24 t25 t26 t27 t28 t29 t30 t31 t32, a = wd6A RB t3 t22 t23 t24 t25 t26 t27 t28 t29 t30 t31 t32 s0 s2 s4 s5 s6 s7 s8 s9 s10 s11 s12 s13 s14 s15 s16 s17 s18 s19 s20 s21 s33 s34 s35 s36 s37 s38 s39 s40 s41 s42 s43 s44 s45 s46 ∧ wd6F wr wb x zs lo hi RB v0 v1 v2 v5 v6 t3 t22 t23 t24 t25 t26 t27 t28 t29 t30 t31 t32 done w) (by kernel_rfl) (by kernel_rfl) ?_ ⟨?_, ?_, ?_, ?_, ?_, ?_, ?_, ?_, ?_, ?_, ?_, ?_, trivial⟩ ?_
  · exact ⟨x, s22, s23, s24, s25, s26, s27, s28, s29, s30, s31, s32, rfl, ⟨hg0.drew, fun _ => rfl, fun _ => H.down, BX.down.drew⟩, fun q => absurd q (by decide), fun q => absurd q (by decide), fun q => absurd q (by decide), fun q => absurd q (by decide), fun q => absurd q (by decide), fun q => absurd q (by decide), fun q => absurd q (by decide), fun q => absurd q (by decide), fun q => absurd q (by decide), fun q => absurd q (by decide), fun q => absurd q (by decide), fun q => absurd q (by decide)⟩
  · rintro done a w hsz hnot hdep ⟨t3, t22, t23, t24, t25, t26, t27, t28, t29, t30, t31, t32, rfl, ⟨gw, gx⟩, f0, f1, f2, f3, f4, f5, f6, f7, f8, f9, f10, f11⟩ K hK
    have hn : ¬ done.getD 0 false = true := by rw [getD_both hnot]; decide
    have n11 : done.getD 11 false = false := by cases hz : done.getD 11 false with | false => rfl | true => exact absurd (f10 (f11 hz).1).1.1 hn
    obtain rfl := gx.1 n11
    have HK := PLift.up hK
    clear hK 
    simp only [wd6A]
    go_simp
    have gg : Gr w w := Gr.refl _
    refine HK.down _ _ ⟨_, _, _, _, _, _, _, _, _, _, _, _, rfl, ⟨gw, fun q => gx.1 (by rw [getD_set_ne false (by decide)] at q; exact q), fun q => Gr.owns (gx.2.1 (by rw [getD_set_ne false (by decide)] at q; exact q)) gg, gx.2.2.gr gg⟩, ?_, fun q => f1 (done_old q (by decide)), fun q => f2 (done_old q (by decide)), fun q => f3 (done_old q (by decide)), fun q => f4 (done_old q (by decide)), fun q => f5 (done_old q (by decide)), fun q => f6 (done_old q (by decide)), fun q => f7 (done_old q (by decide)), fun q => f8 (done_old q (by decide)), fun q => (let ⟨B, e, h2⟩ := f9 (done_old q (by decide)); ⟨B, e, fun q2 => (h2 (by rw [getD_set_ne false (by decide)] at q2; exact q2)).gr gg⟩), fun q => absurd (f10 (done_old q (by decide))).1.1 hn, fun q => ⟨getD_set_true (f11 (done_old q (by decide))).1, (f11 (done_old q (by decide))).2⟩⟩
    exact fun _ => rfl
  · rintro done a w hsz hnot hdep ⟨t3, t22, t23, t24, t25, t26, t27, t28, t29, t30, t31, t32, rfl, ⟨gw, gx⟩, f0, f1, f2, f3, f4, f5, f6, f7, f8, f9, f10, f11⟩ K hK
    have hn : ¬ done.getD 1 false = true := by rw [getD_both hnot]; decide
    have HK := PLift.up hK
    clear hK 
    simp only [wd6A]
    go_simp
    have gg : Gr w w := Gr.refl _
    refine HK.down _ _ ⟨_, _, _, _, _, _, _, _, _, _, _, _, rfl, ⟨gw, fun q => gx.1 (by rw [getD_set_ne false (by decide)] at q; exact q), fun q => Gr.owns (gx.2.1 (by rw [getD_set_ne false (by decide)] at q; exact q)) gg, gx.2.2.gr gg⟩, fun q => f0 (done_old q (by decide)), fun _ => rfl, fun q => f2 (done_old q (by decide)), fun q => f3 (done_old q (by decide)), fun q => f4 (done_old q (by decide)), fun q => f5 (done_old q (by decide)), fun q => f6 (done_old q (by decide)), fun q => f7 (done_old q (by decide)), fun q => f8 (done_old q (by decide)), fun q => (let ⟨B, e, h2⟩ := f9 (done_old q (by decide)); ⟨B, e, fun q2 => (h2 (by rw [getD_set_ne false (by decide)] at q2; exact q2)).gr gg⟩), fun q => ⟨⟨getD_set_true (f10 (done_old q (by decide))).1.1, getD_set_true (f10 (done_old q (by decide))).1.2⟩, Gr.owns (f10 (done_old q (by decide))).2 gg⟩, fun q => ⟨getD_set_true (f11 (done_old q (by decide))).1, (f11 (done_old q (by decide))).2⟩⟩
  · rintro done a w hsz hnot hdep ⟨t3, t22, t23, t24, t25, t26, t27, t28, t29, t30, t31, t32, rfl, ⟨gw, gx⟩, f0, f1, f2, f3, f4, f5, f6, f7, f8, f9, f10, f11⟩ K hK
    have hn : ¬ done.getD 2 false = true := by rw [getD_both hnot]; decide
    have d1 := hdep 1 (by kernel_rfl)
    obtain rfl := f1 d1
    have c3 : w.cell? ⟨RB, 3, none⟩ = some (.int .i64 lo) := gx.2.2.cell 3 (by simp)
    have ch := has_of_cell c3
    have HK := PLift.up hK
    clear hK d1
    simp only [wd6A]
    go_simp
    have gg : Gr w w := Gr.refl _
    refine HK.down _ _ ⟨_, _, _, _, _, _, _, _, _, _, _, _, rfl, ⟨gw, fun q => gx.1 (by rw [getD_set_ne false (by decide)] at q; exact q), fun q => Gr.owns (gx.2.1 (by rw [getD_set_ne false (by decide)] at q; exact q)) gg, gx.2.2.gr gg⟩, fun q => f0 (done_old q (by decide)), fun q => f1 (done_old q (by decide)), fun _ => rfl, fun q => f3 (done_old q (by decide)), fun q => f4 (done_old q (by decide)), fun q => f5 (done_old q (by decide)), fun q => f6 (done_old q (by decide)), fun q => f7 (done_old q (by decide)), fun q => f8 (done_old q (by decide)), fun q => (let ⟨B, e, h2⟩ := f9 (done_old q (by decide)); ⟨B, e, fun q2 => (h2 (by rw [getD_set_ne false (by decide)] at q2; exact q2)).gr gg⟩), fun q => ⟨⟨getD_set_true (f10 (done_old q (by decide))).1.1, getD_set_true (f10 (done_old q (by decide))).1.2⟩, Gr.owns (f10 (done_old q (by decide))).2 gg⟩, fun q => ⟨getD_set_true (f11 (done_old q (by decide))).1, (f11 (done_old q (by decide))).2⟩⟩
  · rintro done a w hsz hnot hdep ⟨t3, t22, t23, t24, t25, t26, t27, t28, t29, t30, t31, t32, rfl, ⟨gw, gx⟩, f0, f1, f2, f3, f4, f5, f6, f7, f8, f9, f10, f11⟩ K hK
    have hn : ¬ done.getD 3 false = true := by rw [getD_both hnot]; decide
    have d2 := hdep 2 (by kernel_rfl)
    obtain rfl := f2 d2
    have PW := PLift.up (HP.down.gr gw)
    have HK := PLift.up hK
    clear hK d2
    simp only [wd6A]
    go_simp
    refine (itoa_any lo w (by have := HB.down; omega) (by have := HB.down; omega) PW.down).mono ?_
    rintro e w2 ⟨rfl, hg⟩
    have gg : Gr w w2 := hg
    clear hg
    (try go_simp)
    refine HK.down _ _ ⟨_, _, _, _, _, _, _, _, _, _, _, _, rfl, ⟨gw.trans gg, fun q => gx.1 (by rw [getD_set_ne false (by decide)] at q; exact q), fun q => Gr.owns (gx.2.1 (by rw [getD_set_ne false (by decide)] at q; exact q)) gg, gx.2.2.gr gg⟩, fun q => f0 (done_old q (by decide)), fun q => f1 (done_old q (by decide)), fun q => f2 (done_old q (by decide)), fun _ => rfl, fun q => f4 (done_old q (by decide)), fun q => f5 (done_old q (by decide)), fun q => f6 (done_old q (by decide)), fun q => f7 (done_old q (by decide)), fun q => f8 (done_old q (by decide)), fun q => (let ⟨B, e, h2⟩ := f9 (done_old q (by decide)); ⟨B, e, fun q2 => (h2 (by rw [getD_set_ne false (by decide)] at q2; exact q2)).gr gg⟩), fun q => ⟨⟨getD_set_true (f10 (done_old q (by decide))).1.1, getD_set_true (f10 (done_old q (by decide))).1.2⟩, Gr.owns (f10 (done_old q (by decide))).2 gg⟩, fun q => ⟨getD_set_true (f11 (done_old q (by decide))).1, (f11 (done_old q (by decide))).2⟩⟩
  · rintro done a w hsz hnot hdep ⟨t3, t22, t23, t24, t25, t26, t27, t28, t29, t30, t31, t32, rfl, ⟨gw, gx⟩, f0, f1, f2, f3, f4, f5, f6, f7, f8, f9, f10, f11⟩ K hK
    have hn : ¬ done.getD 4 false = true := by rw [getD_both hnot]; decide
    have d3 := hdep 3 (by kernel_rfl)
    obtain rfl := f3 d3
    have kl := L1.down
    have k2 : ¬ (9223372036854775807 < (Lib.itoa lo).length + 2) := by omega
    have HK := PLift.up hK
    clear hK d3
    simp only [wd6A]
    go_simp
    have gg : Gr w w := Gr.refl _
    refine HK.down _ _ ⟨_, _, _, _, _, _, _, _, _, _, _, _, rfl, ⟨gw, fun q => gx.1 (by rw [getD_set_ne false (by decide)] at q; exact q), fun q => Gr.owns (gx.2.1 (by rw [getD_set_ne false (by decide)] at q; exact q)) gg, gx.2.2.gr gg⟩, fun q => f0 (done_old q (by decide)), fun q => f1 (done_old q (by decide)), fun q => f2 (done_old q (by decide)), fun q => f3 (done_old q (by decide)), fun _ => rfl, fun q => f5 (done_old q (by decide)), fun q => f6 (done_old q (by decide)), fun q => f7 (done_old q (by decide)), fun q => f8 (done_old q (by decide)), fun q => (let ⟨B, e, h2⟩ := f9 (done_old q (by decide)); ⟨B, e, fun q2 => (h2 (by rw [getD_set_ne false (by decide)] at q2; exact q2)).gr gg⟩), fun q => ⟨⟨getD_set_true (f10 (done_old q (by decide))).1.1, getD_set_true (f10 (done_old q (by decide))).1.2⟩, Gr.owns (f10 (done_old q (by decide))).2 gg⟩, fun q => ⟨getD_set_true (f11 (done_old q (by decide))).1, (f11 (done_old q (by decide))).2⟩⟩
  · rintro done a w hsz hnot hdep ⟨t3, t22, t23, t24, t25, t26, t27, t28, t29, t30, t31, t32, rfl, ⟨gw, gx⟩, f0, f1, f2, f3, f4, f5, f6, f7, f8, f9, f10, f11⟩ K hK
    have hn : ¬ done.getD 5 false = true := by rw [getD_both hnot]; decide
    have HK := PLift.up hK
    clear hK 
    simp only [wd6A]
    go_simp
    have gg : Gr w w := Gr.refl _
    refine HK.down _ _ ⟨_, _, _, _, _, _, _, _, _, _, _, _, rfl, ⟨gw, fun q => gx.1 (by rw [getD_set_ne false (by decide)] at q; exact q), fun q => Gr.owns (gx.2.1 (by rw [getD_set_ne false (by decide)] at q; exact q)) gg, gx.2.2.gr gg⟩, fun q => f0 (done_old q (by decide)), fun q => f1 (done_old q (by decide)), fun q => f2 (done_old q (by decide)), fun q => f3 (done_old q (by decide)), fun q => f4 (done_old q (by decide)), fun _ => rfl, fun q => f6 (done_old q (by decide)), fun q => f7 (done_old q (by decide)), fun q => f8 (done_old q (by decide)), fun q => (let ⟨B, e, h2⟩ := f9 (done_old q (by decide)); ⟨B, e, fun q2 => (h2 (by rw [getD_set_ne false (by decide)] at q2; exact q2)).gr gg⟩), fun q => ⟨⟨getD_set_true (f10 (done_old q (by decide))).1.1, getD_set_true (f10 (done_old q (by decide))).1.2⟩, Gr.owns (f10 (done_old q (by decide))).2 gg⟩, fun q => ⟨getD_set_true (f11 (done_old q (by decide))).1, (f11 (done_old q (by decide))).2⟩⟩
  · rintro done a w hsz hnot hdep ⟨t3, t22, t23, t24, t25, t26, t27, t28, t29, t30, t31, t32, rfl, ⟨gw, gx⟩, f0, f1, f2, f3, f4, f5, f6, f7, f8, f9, f10, f11⟩ K hK
    have hn : ¬ done.getD 6 false = true := by rw [getD_both hnot]; decide
    have d5 := hdep 5 (by kernel_rfl)
    obtain rfl := f5 d5
    have c4 : w.cell? ⟨RB, 4, none⟩ = some (.int .i64 hi) := gx.2.2.cell 4 (by simp)
    have ch := has_of_cell c4
    have HK := PLift.up hK
    clear hK d5
    simp only [wd6A]
    go_simp
    have gg : Gr w w := Gr.refl _
    refine HK.down _ _ ⟨_, _, _, _, _, _, _, _, _, _, _, _, rfl, ⟨gw, fun q => gx.1 (by rw [getD_set_ne false (by decide)] at q; exact q), fun q => Gr.owns (gx.2.1 (by rw [getD_set_ne false (by decide)] at q; exact q)) gg, gx.2.2.gr gg⟩, fun q => f0 (done_old q (by decide)), fun q => f1 (done_old q (by decide)), fun q => f2 (done_old q (by decide)), fun q => f3 (done_old q (by decide)), fun q => f4 (done_old q (by decide)), fun q => f5 (done_old q (by decide)), fun _ => rfl, fun q => f7 (done_old q (by decide)), fun q => f8 (done_old q (by decide)), fun q => (let ⟨B, e, h2⟩ := f9 (done_old q (by decide)); ⟨B, e, fun q2 => (h2 (by rw [getD_set_ne false (by decide)] at q2; exact q2)).gr gg⟩), fun q => ⟨⟨getD_set_true (f10 (done_old q (by decide))).1.1, getD_set_true (f10 (done_old q (by decide))).1.2⟩, Gr.owns (f10 (done_old q (by decide))).2 gg⟩, fun q => ⟨getD_set_true (f11 (done_old q (by decide))).1, (f11 (done_old q (by decide))).2⟩⟩
  · rintro done a w hsz hnot hdep ⟨t3, t22, t23, t24, t25, t26, t27, t28, t29, t30, t31, t32, rfl, ⟨gw, gx⟩, f0, f1, f2, f3, f4, f5, f6, f7, f8, f9, f10, f11⟩ K hK
    have hn : ¬ done.getD 7 false = true := by rw [getD_both hnot]; decide
    have d6 := hdep 6 (by kernel_rfl)
    obtain rfl := f6 d6
    have PW := PLift.up (HP.down.gr gw)
    have HK := PLift.up hK
    clear hK d6
    simp only [wd6A]
    go_simp
    refine (itoa_any hi w (by have := HB.down; omega) (by have := HB.down; omega) PW.down).mono ?_
    rintro e w2 ⟨rfl, hg⟩
    have gg : Gr w w2 := hg
    clear hg
    (try go_simp)
    refine HK.down _ _ ⟨_, _, _, _, _, _, _, _, _, _, _, _, rfl, ⟨gw.trans gg, fun q => gx.1 (by rw [getD_set_ne false (by decide)] at q; exact q), fun q => Gr.owns (gx.2.1 (by rw [getD_set_ne false (by decide)] at q; exact q)) gg, gx.2.2.gr gg⟩, fun q => f0 (done_old q (by decide)), fun q => f1 (done_old q (by decide)), fun q => f2 (done_old q (by decide)), fun q => f3 (done_old q (by decide)), fun q => f4 (done_old q (by decide)), fun q => f5 (done_old q (by decide)), fun q => f6 (done_old q (by decide)), fun _ => rfl, fun q => f8 (done_old q (by decide)), fun q => (let ⟨B, e, h2⟩ := f9 (done_old q (by decide)); ⟨B, e, fun q2 => (h2 (by rw [getD_set_ne false (by decide)] at q2; exact q2)).gr gg⟩), fun q => ⟨⟨getD_set_true (f10 (done_old q (by decide))).1.1, getD_set_true (f10 (done_old q (by decide))).1.2⟩, Gr.owns (f10 (done_old q (by decide))).2 gg⟩, fun q => ⟨getD_set_true (f11 (done_old q (by decide))).1, (f11 (done_old q (by decide))).2⟩⟩
  · rintro done a w hsz hnot hdep ⟨t3, t22, t23, t24, t25, t26, t27, t28, t29, t30, t31, t32, rfl, ⟨gw, gx⟩, f0, f1, f2, f3, f4, f5, f6, f7, f8, f9, f10, f11⟩ K hK
    have hn : ¬ done.getD 8 false = true := by rw [getD_both hnot]; decide
    have d4 := hdep 4 (by kernel_rfl)
    have d7 := hdep 7 (by kernel_rfl)
    obtain rfl := f4 d4
    obtain rfl := f7 d7
    have kl := L1.down
    have kh := L2.down
    have k2 : ¬ (9223372036854775807 < (Lib.itoa lo ++ [46, 46]).length + (Lib.itoa hi).length) := by simp; omega
    have k3 : ¬ (9223372036854775807 < (Lib.itoa lo).length + 2 + (Lib.itoa hi).length) := by omega
    have HK := PLift.up hK
    clear hK d4 d7
    simp only [wd6A]
    go_simp
    have gg : Gr w w := Gr.refl _
    refine HK.down _ _ ⟨_, _, _, _, _, _, _, _, _, _, _, _, rfl, ⟨gw, fun q => gx.1 (by rw [getD_set_ne false (by decide)] at q; exact q), fun q => Gr.owns (gx.2.1 (by rw [getD_set_ne false (by decide)] at q; exact q)) gg, gx.2.2.gr gg⟩, fun q => f0 (done_old q (by decide)), fun q => f1 (done_old q (by decide)), fun q => f2 (done_old q (by decide)), fun q => f3 (done_old q (by decide)), fun q => f4 (done_old q (by decide)), fun q => f5 (done_old q (by decide)), fun q => f6 (done_old q (by decide)), fun q => f7 (done_old q (by decide)), fun _ => rfl, fun q => (let ⟨B, e, h2⟩ := f9 (done_old q (by decide)); ⟨B, e, fun q2 => (h2 (by rw [getD_set_ne false (by decide)] at q2; exact q2)).gr gg⟩), fun q => ⟨⟨getD_set_true (f10 (done_old q (by decide))).1.1, getD_set_true (f10 (done_old q (by decide))).1.2⟩, Gr.owns (f10 (done_old q (by decide))).2 gg⟩, fun q => ⟨getD_set_true (f11 (done_old q (by decide))).1, (f11 (done_old q (by decide))).2⟩⟩
  · rintro done a w hsz hnot hdep ⟨t3, t22, t23, t24, t25, t26, t27, t28, t29, t30, t31, t32, rfl, ⟨gw, gx⟩, f0, f1, f2, f3, f4, f5, f6, f7, f8, f9, f10, f11⟩ K hK
    have hn : ¬ done.getD 9 false = true := by rw [getD_both hnot]; decide
    have d8 := hdep 8 (by kernel_rfl)
    obtain rfl := f8 d8
    have HK := PLift.up hK
    clear hK d8
    simp only [wd6A]
    go_simp
    have gg : Gr w (w.alloc (.cells #[.string (bs (Lib.itoa lo ++ 46 :: 46 :: Lib.itoa hi))] 9)) := (Gr.refl _).alloc _
    refine HK.down _ _ ⟨_, _, _, _, _, _, _, _, _, _, _, _, rfl, ⟨gw.trans gg, fun q => gx.1 (by rw [getD_set_ne false (by decide)] at q; exact q), fun q => Gr.owns (gx.2.1 (by rw [getD_set_ne false (by decide)] at q; exact q)) gg, gx.2.2.gr gg⟩, fun q => f0 (done_old q (by decide)), fun q => f1 (done_old q (by decide)), fun q => f2 (done_old q (by decide)), fun q => f3 (done_old q (by decide)), fun q => f4 (done_old q (by decide)), fun q => f5 (done_old q (by decide)), fun q => f6 (done_old q (by decide)), fun q => f7 (done_old q (by decide)), fun q => f8 (done_old q (by decide)), ?_, fun q => absurd (f10 (done_old q (by decide))).1.2 hn, fun q => ⟨getD_set_true (f11 (done_old q (by decide))).1, (f11 (done_old q (by decide))).2⟩⟩
    exact fun _ => ⟨_, rfl, fun _ => Row.new w _ _⟩
  · rintro done a w hsz hnot hdep ⟨t3, t22, t23, t24, t25, t26, t27, t28, t29, t30, t31, t32, rfl, ⟨gw, gx⟩, f0, f1, f2, f3, f4, f5, f6, f7, f8, f9, f10, f11⟩ K hK
    have hn : ¬ done.getD 10 false = true := by rw [getD_both hnot]; decide
    have d0 := hdep 0 (by kernel_rfl)
    have d9 := hdep 9 (by kernel_rfl)
    have n10 := getD_both hnot
    obtain ⟨B, rfl, r3⟩ := f9 d9
    refine step_append_gets _ rfl _ _ 26 rfl wb.heap.size 9 j0 (.string ⟨#[]⟩) 1 16 Tryz.underlying26 hj hy0 hy1 hy2 rfl (by decide) x zs.length (strV zs) (by simp [Act.eval, wd6A, f0 d0]) (gx.2.1 n10) (some ⟨B, 0, none⟩) 1 1 (strV [(Lib.itoa lo ++ 46 :: 46 :: Lib.itoa hi)]) (by simp [Act.eval, wd6A]) ⟨rfl, fun _ => ⟨_, rfl, row_cells (r3 n10)⟩⟩ (strV_one _) (by unfold maxLen; omega) (by omega) gw.size ?_
    intro v w2 hown hgrow _
    refine hK _ _ ⟨_, _, _, _, _, _, _, _, _, _, _, _, rfl, ⟨gw.grown hgrow (fun k e => (owns_block (gx.2.1 n10) k e).1), fun q => gx.1 (by rw [getD_set_ne false (by decide)] at q; exact q), fun q => absurd q (by rw [getD_set_same (by rw [hsz]; decide)]; decide), gx.2.2.kept hgrow (gx.2.2.ty.ne (gx.2.1 n10) (by decide))⟩, fun _ => (by first | rfl | exact f0 d0), fun q => f1 (done_old q (by decide)), fun q => f2 (done_old q (by decide)), fun q => f3 (done_old q (by decide)), fun q => f4 (done_old q (by decide)), fun q => f5 (done_old q (by decide)), fun q => f6 (done_old q (by decide)), fun q => f7 (done_old q (by decide)), fun q => f8 (done_old q (by decide)), fun _ => ⟨B, rfl, fun q => absurd q (by rw [getD_set_same (by rw [hsz]; decide)]; decide)⟩, ?_, fun q => absurd (f11 (done_old q (by decide))).1 hn⟩
    exact fun _ => ⟨⟨getD_set_true d0, getD_set_true d9⟩, by simpa [strV] using hown⟩
  · rintro done a w hsz hnot hdep ⟨t3, t22, t23, t24, t25, t26, t27, t28, t29, t30, t31, t32, rfl, ⟨gw, gx⟩, f0, f1, f2, f3, f4, f5, f6, f7, f8, f9, f10, f11⟩ K hK
    have hn : ¬ done.getD 11 false = true := by rw [getD_both hnot]; decide
    have d10 := hdep 10 (by kernel_rfl)
    have HK := PLift.up hK
    clear hK 
    simp only [wd6A]
    go_simp
    have gg : Gr w w := Gr.refl _
    refine HK.down _ _ ⟨_, _, _, _, _, _, _, _, _, _, _, _, rfl, ⟨gw, fun q => absurd q (by rw [getD_set_same (by rw [hsz]; decide)]; decide), fun q => Gr.owns (gx.2.1 (by rw [getD_set_ne false (by decide)] at q; exact q)) gg, gx.2.2.gr gg⟩, fun q => (by first | rfl | exact f0 (done_old q (by decide))), fun q => f1 (done_old q (by decide)), fun q => f2 (done_old q (by decide)), fun q => f3 (done_old q (by decide)), fun q => f4 (done_old q (by decide)), fun q => f5 (done_old q (by decide)), fun q => f6 (done_old q (by decide)), fun q => f7 (done_old q (by decide)), fun q => f8 (done_old q (by decide)), fun q => (let ⟨B, e, h2⟩ := f9 (done_old q (by decide)); ⟨B, e, fun q2 => (h2 (by rw [getD_set_ne false (by decide)] at q2; exact q2)).gr gg⟩), fun q => ⟨⟨getD_set_true (f10 (done_old q (by decide))).1.1, getD_set_true (f10 (done_old q (by decide))).1.2⟩, Gr.owns (f10 (done_old q (by decide))).2 gg⟩, ?_⟩
    exact fun _ => ⟨getD_set_true d10, rfl⟩
  · rintro done a w hall ⟨t3, t22, t23, t24, t25, t26, t27, t28, t29, t30, t31, t32, rfl, ⟨gw, gx⟩, f0, f1, f2, f3, f4, f5, f6, f7, f8, f9, f10, f11⟩
    obtain rfl := (f11 (hall 11 (by decide))).2
    exact h' _ _ _ _ _ _ _ _ _ _ _ _ w (f10 (hall 10 (by decide))).2 gx.2.2 gw
end Go.Proofs.YtadldblpkgackaaGreatDoor
