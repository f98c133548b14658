/- Statements of schema.Parse whose guards are false (printed by wip/tools/paf.py). -/
import Derived.Test.YtadldblpkgackaaGreatDoorUdA
set_option linter.unusedVariables false
set_option linter.unusedSimpArgs false
namespace Go.Proofs.YtadldblpkgackaaGreatDoor
open Go.RowKit
open Classical

/-- What is known of each slot as soon as its operation is done. -/
def pa11F (wr : World) (va : Option Addr) (c : Nat) (t39 t40 t41 t42 t43 t44 t45 t46 t47 t48 t49 t50 t51 t52 t53 t54 : Value) (d : Array Bool) (w : World) : Prop :=
  Gr wr w ∧ (d.getD 0 false = true → t40 = .slice va 0 c) ∧
  (d.getD 1 false = true → t41 = .int .i64 0) ∧
  (d.getD 2 false = true → t42 = .bool false) ∧
  (d.getD 3 false = true → t43 = .bool false) ∧
  (d.getD 4 false = true → True) ∧
  (d.getD 5 false = true → True) ∧
  (d.getD 6 false = true → True) ∧
  (d.getD 7 false = true → True) ∧
  (d.getD 8 false = true → True) ∧
  (d.getD 9 false = true → True) ∧
  (d.getD 10 false = true → True) ∧
  (d.getD 11 false = true → True) ∧
  (d.getD 12 false = true → True) ∧
  (d.getD 13 false = true → True) ∧
  (d.getD 14 false = true → t54 = .bool false) ∧
  (d.getD 15 false = true → t39 = .bool false)
/-- The frame. -/
def pa11A (va : Option Addr) (c : Nat) (t39 t40 t41 t42 t43 t44 t45 t46 t47 t48 t49 t50 t51 t52 t53 t54 s0 s1 s2 s3 s4 s6 s7 s8 s9 s10 s11 s12 s13 s14 s15 s16 s17 s18 s19 s20 s21 s22 s23 s24 s25 s26 s27 s28 s29 s30 s31 s32 s33 s34 s35 s36 s37 s38 s55 s56 s57 s58 s59 s60 s61 s62 s63 s64 s65 s66 s67 s68 s69 s70 s71 s72 s73 s74 s75 s76 s77 s78 s79 s80 s81 s82 s83 s84 s85 s86 s87 s88 s89 s90 s91 s92 s93 s94 s95 s96 s97 s98 s99 s100 s101 s102 s103 s104 s105 s106 s107 s108 s109 s110 s111 s112 s113 s114 s115 s116 s117 s118 s119 s120 s121 s122 s123 s124 : Value) : Act := { tmps := #[s0, s1, s2, s3, s4, .slice va 0 c, s6, s7, s8, s9, s10, s11, s12, s13, s14, s15, s16, s17, s18, s19, s20, s21, s22, s23, s24, s25, s26, s27, s28, s29, s30, s31, s32, s33, s34, s35, s36, s37, s38, t39, t40, t41, t42, t43, t44, t45, t46, t47, t48, t49, t50, t51, t52, t53, t54, s55, s56, s57, s58, s59, s60, s61, s62, s63, s64, s65, s66, s67, s68, s69, s70, s71, s72, s73, s74, s75, s76, s77, s78, s79, s80, s81, s82, s83, s84, s85, s86, s87, s88, s89, s90, s91, s92, s93, s94, s95, s96, s97, s98, s99, s100, s101, s102, s103, s104, s105, s106, s107, s108, s109, s110, s111, s112, s113, s114, s115, s116, s117, s118, s119, s120, s121, s122, s123, s124], defers := [] }

set_option maxRecDepth 100000 in
set_option maxHeartbeats 4000000 in
theorem pa11 {Q : Exit → Act → World → Prop} {wr : World} {va : Option Addr} {c : Nat}  {s0 s1 s2 s3 s4 s6 s7 s8 s9 s10 s11 s12 s13 s14 s15 s16 s17 s18 s19 s20 s21 s22 s23 s24 s25 s26 s27 s28 s29 s30 s31 s32 s33 s34 s35 s36 s37 s38 s39 s40 s41 s42 s43 s44 s45 s46 s47 s48 s49 s50 s51 s52 s53 s54 s55 s56 s57 s58 s59 s60 s61 s62 s63 s64 s65 s66 s67 s68 s69 s70 s71 s72 s73 s74 s75 s76 s77 s78 s79 s80 s81 s82 s83 s84 s85 s86 s87 s88 s89 s90 s91 s92 s93 s94 s95 s96 s97 s98 s99 s100 s101 s102 s103 s104 s105 s106 s107 s108 s109 s110 s111 s112 s113 s114 s115 s116 s117 s118 s119 s120 s121 s122 s123 s124 : Value} 
    (h' : ∀ t39 t40 t41 t42 t43 t44 t45 t46 t47 t48 t49 t50 t51 t52 t53 t54 wx, t39 = .bool false → Gr wr wx → Q .normal (pa11A va c t39 t40 t41 t42 t43 t44 t45 t46 t47 t48 t49 t50 t51 t52 t53 t54 s0 s1 s2 s3 s4 s6 s7 s8 s9 s10 s11 s12 s13 s14 s15 s16 s17 s18 s19 s20 s21 s22 s23 s24 s25 s26 s27 s28 s29 s30 s31 s32 s33 s34 s35 s36 s37 s38 s55 s56 s57 s58 s59 s60 s61 s62 s63 s64 s65 s66 s67 s68 s69 s70 s71 s72 s73 s74 s75 s76 s77 s78 s79 s80 s81 s82 s83 s84 s85 s86 s87 s88 s89 s90 s91 s92 s93 s94 s95 s96 s97 s98 s99 s100 s101 s102 s103 s104 s105 s106 s107 s108 s109 s110 s111 s112 s113 s114 s115 s116 s117 s118 s119 s120 s121 s122 s123 s124) wx) :
    (Code.region 11 (regIn 11 Tryz.f9) true).wp Tryz.prog Q { tmps := #[s0, s1, s2, s3, s4, .slice va 0 c, s6, s7, s8, s9, s10, s11, s12, s13, s14, s15, s16, s17, s18, s19, s20, s21, s22, s23, s24, s25, s26, s27, s28, s29, s30, s31, s32, s33, s34, s35, s36, s37, s38, s39, s40, s41, s42, s43, s44, s45, s46, s47, s48, s49, s50, s51, s52, s53, s54, s55, s56, s57, s58, s59, s60, s61, s62, s63, s64, s65, s66, s67, s68, s69, s70, s71, s72, s73, s74, s75, s76, s77, s78, s79, s80, s81, s82, s83, s84, s85, s86, s87, s88, s89, s90, s91, s92, s93, s94, s95, s96, s97, s98, s99, s100, s101, s102, s103, s104, s105, s106, s107, s108, s109, s110, s111, s112, s113, s114, s115, s116, s117, s118, s119, s120, s121, s122, s123, s124], defers := [] } wr := by

  simp only [regIn, Tryz.f9, regOps, Option.bind_some, Option.getD_some, Nat.beq, cond_true, cond_false]
  refine wp_region_steps (fun done a w => ∃ t39 t40 t41 t42 t43 t44 t45 t46 t47 t48 t49 t50 t51 t52 t53 t54, a = pa11A va c t39 t40 t41 t42 t43 t44 t45 t46 t47 t48 t49 t50 t51 t52 t53 t54 s0 s1 s2 s3 s4 s6 s7 s8 s9 s10 s11 s12 s13 s14 s15 s16 s17 s18 s19 s20 s21 s22 s23 s24 s25 s26 s27 s28 s29 s30 s31 s32 s33 s34 s35 s36 s37 s38 s55 s56 s57 s58 s59 s60 s61 s62 s63 s64 s65 s66 s67 s68 s69 s70 s71 s72 s73 s74 s75 s76 s77 s78 s79 s80 s81 s82 s83 s84 s85 s86 s87 s88 s89 s90 s91 s92 s93 s94 s95 s96 s97 s98 s99 s100 s101 s102 s103 s104 s105 s106 s107 s108 s109 s110 s111 s112 s113 s114 s115 s116 s117 s118 s119 s120 s121 s122 s123 s124 ∧ pa11F wr va c t39 t40 t41 t42 t43 t44 t45 t46 t47 t48 t49 t50 t51 t52 t53 t54 done w) (by kernel_rfl) (by kernel_rfl) ?_ ⟨?_, ?_, ?_, ?_, ?_, ?_, ?_, ?_, ?_, ?_, ?_, ?_, ?_, ?_, ?_, ?_, trivial⟩ ?_
  · exact ⟨s39, s40, s41, s42, s43, s44, s45, s46, s47, s48, s49, s50, s51, s52, s53, s54, rfl, (Gr.refl _).drew, fun q => absurd q (by decide), fun q => absurd q (by decide), fun q => absurd q (by decide), fun q => absurd q (by decide), fun q => absurd q (by decide), fun q => absurd q (by decide), fun q => absurd q (by decide), fun q => absurd q (by decide), fun q => absurd q (by decide), fun q => absurd q (by decide), fun q => absurd q (by decide), fun q => absurd q (by decide), fun q => absurd q (by decide), fun q => absurd q (by decide), fun q => absurd q (by decide), fun q => absurd q (by decide)⟩
  · rintro done a w hsz hnot hdep ⟨t39, t40, t41, t42, t43, t44, t45, t46, t47, t48, t49, t50, t51, t52, t53, t54, rfl, gw, f0, f1, f2, f3, f4, f5, f6, f7, f8, f9, f10, f11, f12, f13, f14, f15⟩ K hK
    have hn : ¬ done.getD 0 false = true := by rw [getD_both hnot]; decide
    have HK := PLift.up hK
    clear hK 
    simp only [pa11A]
    go_simp
    have gg : Gr w w := Gr.refl _
    refine HK.down _ _ ⟨_, _, _, _, _, _, _, _, _, _, _, _, _, _, _, _, rfl, gw, fun _ => rfl, fun q => f1 (done_old q (by decide)), fun q => f2 (done_old q (by decide)), fun q => f3 (done_old q (by decide)), fun q => f4 (done_old q (by decide)), fun q => f5 (done_old q (by decide)), fun q => f6 (done_old q (by decide)), fun q => f7 (done_old q (by decide)), fun q => f8 (done_old q (by decide)), fun q => f9 (done_old q (by decide)), fun q => f10 (done_old q (by decide)), fun q => f11 (done_old q (by decide)), fun q => f12 (done_old q (by decide)), fun q => f13 (done_old q (by decide)), fun q => f14 (done_old q (by decide)), fun q => f15 (done_old q (by decide))⟩
  · rintro done a w hsz hnot hdep ⟨t39, t40, t41, t42, t43, t44, t45, t46, t47, t48, t49, t50, t51, t52, t53, t54, rfl, gw, f0, f1, f2, f3, f4, f5, f6, f7, f8, f9, f10, f11, f12, f13, f14, f15⟩ K hK
    have hn : ¬ done.getD 1 false = true := by rw [getD_both hnot]; decide
    have d0 := hdep 0 (by kernel_rfl)
    obtain rfl := f0 d0
    have HK := PLift.up hK
    clear hK d0
    simp only [pa11A]
    go_simp
    have gg : Gr w w := Gr.refl _
    refine HK.down _ _ ⟨_, _, _, _, _, _, _, _, _, _, _, _, _, _, _, _, rfl, gw, fun q => f0 (done_old q (by decide)), fun _ => rfl, fun q => f2 (done_old q (by decide)), fun q => f3 (done_old q (by decide)), fun q => f4 (done_old q (by decide)), fun q => f5 (done_old q (by decide)), fun q => f6 (done_old q (by decide)), fun q => f7 (done_old q (by decide)), fun q => f8 (done_old q (by decide)), fun q => f9 (done_old q (by decide)), fun q => f10 (done_old q (by decide)), fun q => f11 (done_old q (by decide)), fun q => f12 (done_old q (by decide)), fun q => f13 (done_old q (by decide)), fun q => f14 (done_old q (by decide)), fun q => f15 (done_old q (by decide))⟩
  · rintro done a w hsz hnot hdep ⟨t39, t40, t41, t42, t43, t44, t45, t46, t47, t48, t49, t50, t51, t52, t53, t54, rfl, gw, f0, f1, f2, f3, f4, f5, f6, f7, f8, f9, f10, f11, f12, f13, f14, f15⟩ K hK
    have hn : ¬ done.getD 2 false = true := by rw [getD_both hnot]; decide
    have d1 := hdep 1 (by kernel_rfl)
    obtain rfl := f1 d1
    have HK := PLift.up hK
    clear hK d1
    simp only [pa11A]
    go_simp
    have gg : Gr w w := Gr.refl _
    refine HK.down _ _ ⟨_, _, _, _, _, _, _, _, _, _, _, _, _, _, _, _, rfl, gw, fun q => f0 (done_old q (by decide)), fun q => f1 (done_old q (by decide)), fun _ => rfl, fun q => f3 (done_old q (by decide)), fun q => f4 (done_old q (by decide)), fun q => f5 (done_old q (by decide)), fun q => f6 (done_old q (by decide)), fun q => f7 (done_old q (by decide)), fun q => f8 (done_old q (by decide)), fun q => f9 (done_old q (by decide)), fun q => f10 (done_old q (by decide)), fun q => f11 (done_old q (by decide)), fun q => f12 (done_old q (by decide)), fun q => f13 (done_old q (by decide)), fun q => f14 (done_old q (by decide)), fun q => f15 (done_old q (by decide))⟩
  · rintro done a w hsz hnot hdep ⟨t39, t40, t41, t42, t43, t44, t45, t46, t47, t48, t49, t50, t51, t52, t53, t54, rfl, gw, f0, f1, f2, f3, f4, f5, f6, f7, f8, f9, f10, f11, f12, f13, f14, f15⟩ K hK
    have hn : ¬ done.getD 3 false = true := by rw [getD_both hnot]; decide
    have d2 := hdep 2 (by kernel_rfl)
    obtain rfl := f2 d2
    have HK := PLift.up hK
    clear hK d2
    simp only [pa11A]
    go_simp
    have gg : Gr w w := Gr.refl _
    refine HK.down _ _ ⟨_, _, _, _, _, _, _, _, _, _, _, _, _, _, _, _, rfl, gw, fun q => f0 (done_old q (by decide)), fun q => f1 (done_old q (by decide)), fun q => f2 (done_old q (by decide)), fun _ => rfl, fun q => f4 (done_old q (by decide)), fun q => f5 (done_old q (by decide)), fun q => f6 (done_old q (by decide)), fun q => f7 (done_old q (by decide)), fun q => f8 (done_old q (by decide)), fun q => f9 (done_old q (by decide)), fun q => f10 (done_old q (by decide)), fun q => f11 (done_old q (by decide)), fun q => f12 (done_old q (by decide)), fun q => f13 (done_old q (by decide)), fun q => f14 (done_old q (by decide)), fun q => f15 (done_old q (by decide))⟩
  · rintro done a w hsz hnot hdep ⟨t39, t40, t41, t42, t43, t44, t45, t46, t47, t48, t49, t50, t51, t52, t53, t54, rfl, gw, f0, f1, f2, f3, f4, f5, f6, f7, f8, f9, f10, f11, f12, f13, f14, f15⟩ K hK
    have hn : ¬ done.getD 4 false = true := by rw [getD_both hnot]; decide
    have d3 := hdep 3 (by kernel_rfl)
    obtain rfl := f3 d3
    have HK := PLift.up hK
    clear hK d3
    simp only [pa11A]
    go_simp
    have gg : Gr w w := Gr.refl _
    refine HK.down _ _ ⟨_, _, _, _, _, _, _, _, _, _, _, _, _, _, _, _, rfl, gw, fun q => f0 (done_old q (by decide)), fun q => f1 (done_old q (by decide)), fun q => f2 (done_old q (by decide)), fun q => f3 (done_old q (by decide)), ?_, fun q => f5 (done_old q (by decide)), fun q => f6 (done_old q (by decide)), fun q => f7 (done_old q (by decide)), fun q => f8 (done_old q (by decide)), fun q => f9 (done_old q (by decide)), fun q => f10 (done_old q (by decide)), fun q => f11 (done_old q (by decide)), fun q => f12 (done_old q (by decide)), fun q => f13 (done_old q (by decide)), fun q => f14 (done_old q (by decide)), fun q => f15 (done_old q (by decide))⟩
    exact fun _ => trivial
  · rintro done a w hsz hnot hdep ⟨t39, t40, t41, t42, t43, t44, t45, t46, t47, t48, t49, t50, t51, t52, t53, t54, rfl, gw, f0, f1, f2, f3, f4, f5, f6, f7, f8, f9, f10, f11, f12, f13, f14, f15⟩ K hK
    have hn : ¬ done.getD 5 false = true := by rw [getD_both hnot]; decide
    have d3 := hdep 3 (by kernel_rfl)
    obtain rfl := f3 d3
    have HK := PLift.up hK
    clear hK d3
    simp only [pa11A]
    go_simp
    have gg : Gr w w := Gr.refl _
    refine HK.down _ _ ⟨_, _, _, _, _, _, _, _, _, _, _, _, _, _, _, _, rfl, gw, fun q => f0 (done_old q (by decide)), fun q => f1 (done_old q (by decide)), fun q => f2 (done_old q (by decide)), fun q => f3 (done_old q (by decide)), fun q => f4 (done_old q (by decide)), ?_, fun q => f6 (done_old q (by decide)), fun q => f7 (done_old q (by decide)), fun q => f8 (done_old q (by decide)), fun q => f9 (done_old q (by decide)), fun q => f10 (done_old q (by decide)), fun q => f11 (done_old q (by decide)), fun q => f12 (done_old q (by decide)), fun q => f13 (done_old q (by decide)), fun q => f14 (done_old q (by decide)), fun q => f15 (done_old q (by decide))⟩
    exact fun _ => trivial
  · rintro done a w hsz hnot hdep ⟨t39, t40, t41, t42, t43, t44, t45, t46, t47, t48, t49, t50, t51, t52, t53, t54, rfl, gw, f0, f1, f2, f3, f4, f5, f6, f7, f8, f9, f10, f11, f12, f13, f14, f15⟩ K hK
    have hn : ¬ done.getD 6 false = true := by rw [getD_both hnot]; decide
    have d3 := hdep 3 (by kernel_rfl)
    obtain rfl := f3 d3
    have HK := PLift.up hK
    clear hK d3
    simp only [pa11A]
    go_simp
    have gg : Gr w w := Gr.refl _
    refine HK.down _ _ ⟨_, _, _, _, _, _, _, _, _, _, _, _, _, _, _, _, rfl, gw, fun q => f0 (done_old q (by decide)), fun q => f1 (done_old q (by decide)), fun q => f2 (done_old q (by decide)), fun q => f3 (done_old q (by decide)), fun q => f4 (done_old q (by decide)), fun q => f5 (done_old q (by decide)), ?_, fun q => f7 (done_old q (by decide)), fun q => f8 (done_old q (by decide)), fun q => f9 (done_old q (by decide)), fun q => f10 (done_old q (by decide)), fun q => f11 (done_old q (by decide)), fun q => f12 (done_old q (by decide)), fun q => f13 (done_old q (by decide)), fun q => f14 (done_old q (by decide)), fun q => f15 (done_old q (by decide))⟩
    exact fun _ => trivial
  · rintro done a w hsz hnot hdep ⟨t39, t40, t41, t42, t43, t44, t45, t46, t47, t48, t49, t50, t51, t52, t53, t54, rfl, gw, f0, f1, f2, f3, f4, f5, f6, f7, f8, f9, f10, f11, f12, f13, f14, f15⟩ K hK
    have hn : ¬ done.getD 7 false = true := by rw [getD_both hnot]; decide
    have d3 := hdep 3 (by kernel_rfl)
    obtain rfl := f3 d3
    have HK := PLift.up hK
    clear hK d3
    simp only [pa11A]
    go_simp
    have gg : Gr w w := Gr.refl _
    refine HK.down _ _ ⟨_, _, _, _, _, _, _, _, _, _, _, _, _, _, _, _, rfl, gw, fun q => f0 (done_old q (by decide)), fun q => f1 (done_old q (by decide)), fun q => f2 (done_old q (by decide)), fun q => f3 (done_old q (by decide)), fun q => f4 (done_old q (by decide)), fun q => f5 (done_old q (by decide)), fun q => f6 (done_old q (by decide)), ?_, fun q => f8 (done_old q (by decide)), fun q => f9 (done_old q (by decide)), fun q => f10 (done_old q (by decide)), fun q => f11 (done_old q (by decide)), fun q => f12 (done_old q (by decide)), fun q => f13 (done_old q (by decide)), fun q => f14 (done_old q (by decide)), fun q => f15 (done_old q (by decide))⟩
    exact fun _ => trivial
  · rintro done a w hsz hnot hdep ⟨t39, t40, t41, t42, t43, t44, t45, t46, t47, t48, t49, t50, t51, t52, t53, t54, rfl, gw, f0, f1, f2, f3, f4, f5, f6, f7, f8, f9, f10, f11, f12, f13, f14, f15⟩ K hK
    have hn : ¬ done.getD 8 false = true := by rw [getD_both hnot]; decide
    have d3 := hdep 3 (by kernel_rfl)
    obtain rfl := f3 d3
    have HK := PLift.up hK
    clear hK d3
    simp only [pa11A]
    go_simp
    have gg : Gr w w := Gr.refl _
    refine HK.down _ _ ⟨_, _, _, _, _, _, _, _, _, _, _, _, _, _, _, _, rfl, gw, fun q => f0 (done_old q (by decide)), fun q => f1 (done_old q (by decide)), fun q => f2 (done_old q (by decide)), fun q => f3 (done_old q (by decide)), fun q => f4 (done_old q (by decide)), fun q => f5 (done_old q (by decide)), fun q => f6 (done_old q (by decide)), fun q => f7 (done_old q (by decide)), ?_, fun q => f9 (done_old q (by decide)), fun q => f10 (done_old q (by decide)), fun q => f11 (done_old q (by decide)), fun q => f12 (done_old q (by decide)), fun q => f13 (done_old q (by decide)), fun q => f14 (done_old q (by decide)), fun q => f15 (done_old q (by decide))⟩
    exact fun _ => trivial
  · rintro done a w hsz hnot hdep ⟨t39, t40, t41, t42, t43, t44, t45, t46, t47, t48, t49, t50, t51, t52, t53, t54, rfl, gw, f0, f1, f2, f3, f4, f5, f6, f7, f8, f9, f10, f11, f12, f13, f14, f15⟩ K hK
    have hn : ¬ done.getD 9 false = true := by rw [getD_both hnot]; decide
    have d3 := hdep 3 (by kernel_rfl)
    obtain rfl := f3 d3
    have HK := PLift.up hK
    clear hK d3
    simp only [pa11A]
    go_simp
    have gg : Gr w w := Gr.refl _
    refine HK.down _ _ ⟨_, _, _, _, _, _, _, _, _, _, _, _, _, _, _, _, rfl, gw, fun q => f0 (done_old q (by decide)), fun q => f1 (done_old q (by decide)), fun q => f2 (done_old q (by decide)), fun q => f3 (done_old q (by decide)), fun q => f4 (done_old q (by decide)), fun q => f5 (done_old q (by decide)), fun q => f6 (done_old q (by decide)), fun q => f7 (done_old q (by decide)), fun q => f8 (done_old q (by decide)), ?_, fun q => f10 (done_old q (by decide)), fun q => f11 (done_old q (by decide)), fun q => f12 (done_old q (by decide)), fun q => f13 (done_old q (by decide)), fun q => f14 (done_old q (by decide)), fun q => f15 (done_old q (by decide))⟩
    exact fun _ => trivial
  · rintro done a w hsz hnot hdep ⟨t39, t40, t41, t42, t43, t44, t45, t46, t47, t48, t49, t50, t51, t52, t53, t54, rfl, gw, f0, f1, f2, f3, f4, f5, f6, f7, f8, f9, f10, f11, f12, f13, f14, f15⟩ K hK
    have hn : ¬ done.getD 10 false = true := by rw [getD_both hnot]; decide
    have d3 := hdep 3 (by kernel_rfl)
    obtain rfl := f3 d3
    have HK := PLift.up hK
    clear hK d3
    simp only [pa11A]
    go_simp
    have gg : Gr w w := Gr.refl _
    refine HK.down _ _ ⟨_, _, _, _, _, _, _, _, _, _, _, _, _, _, _, _, rfl, gw, fun q => f0 (done_old q (by decide)), fun q => f1 (done_old q (by decide)), fun q => f2 (done_old q (by decide)), fun q => f3 (done_old q (by decide)), fun q => f4 (done_old q (by decide)), fun q => f5 (done_old q (by decide)), fun q => f6 (done_old q (by decide)), fun q => f7 (done_old q (by decide)), fun q => f8 (done_old q (by decide)), fun q => f9 (done_old q (by decide)), ?_, fun q => f11 (done_old q (by decide)), fun q => f12 (done_old q (by decide)), fun q => f13 (done_old q (by decide)), fun q => f14 (done_old q (by decide)), fun q => f15 (done_old q (by decide))⟩
    exact fun _ => trivial
  · rintro done a w hsz hnot hdep ⟨t39, t40, t41, t42, t43, t44, t45, t46, t47, t48, t49, t50, t51, t52, t53, t54, rfl, gw, f0, f1, f2, f3, f4, f5, f6, f7, f8, f9, f10, f11, f12, f13, f14, f15⟩ K hK
    have hn : ¬ done.getD 11 false = true := by rw [getD_both hnot]; decide
    have d3 := hdep 3 (by kernel_rfl)
    obtain rfl := f3 d3
    have HK := PLift.up hK
    clear hK d3
    simp only [pa11A]
    go_simp
    have gg : Gr w w := Gr.refl _
    refine HK.down _ _ ⟨_, _, _, _, _, _, _, _, _, _, _, _, _, _, _, _, rfl, gw, fun q => f0 (done_old q (by decide)), fun q => f1 (done_old q (by decide)), fun q => f2 (done_old q (by decide)), fun q => f3 (done_old q (by decide)), fun q => f4 (done_old q (by decide)), fun q => f5 (done_old q (by decide)), fun q => f6 (done_old q (by decide)), fun q => f7 (done_old q (by decide)), fun q => f8 (done_old q (by decide)), fun q => f9 (done_old q (by decide)), fun q => f10 (done_old q (by decide)), ?_, fun q => f12 (done_old q (by decide)), fun q => f13 (done_old q (by decide)), fun q => f14 (done_old q (by decide)), fun q => f15 (done_old q (by decide))⟩
    exact fun _ => trivial
  · rintro done a w hsz hnot hdep ⟨t39, t40, t41, t42, t43, t44, t45, t46, t47, t48, t49, t50, t51, t52, t53, t54, rfl, gw, f0, f1, f2, f3, f4, f5, f6, f7, f8, f9, f10, f11, f12, f13, f14, f15⟩ K hK
    have hn : ¬ done.getD 12 false = true := by rw [getD_both hnot]; decide
    have d3 := hdep 3 (by kernel_rfl)
    obtain rfl := f3 d3
    have HK := PLift.up hK
    clear hK d3
    simp only [pa11A]
    go_simp
    have gg : Gr w w := Gr.refl _
    refine HK.down _ _ ⟨_, _, _, _, _, _, _, _, _, _, _, _, _, _, _, _, rfl, gw, fun q => f0 (done_old q (by decide)), fun q => f1 (done_old q (by decide)), fun q => f2 (done_old q (by decide)), fun q => f3 (done_old q (by decide)), fun q => f4 (done_old q (by decide)), fun q => f5 (done_old q (by decide)), fun q => f6 (done_old q (by decide)), fun q => f7 (done_old q (by decide)), fun q => f8 (done_old q (by decide)), fun q => f9 (done_old q (by decide)), fun q => f10 (done_old q (by decide)), fun q => f11 (done_old q (by decide)), ?_, fun q => f13 (done_old q (by decide)), fun q => f14 (done_old q (by decide)), fun q => f15 (done_old q (by decide))⟩
    exact fun _ => trivial
  · rintro done a w hsz hnot hdep ⟨t39, t40, t41, t42, t43, t44, t45, t46, t47, t48, t49, t50, t51, t52, t53, t54, rfl, gw, f0, f1, f2, f3, f4, f5, f6, f7, f8, f9, f10, f11, f12, f13, f14, f15⟩ K hK
    have hn : ¬ done.getD 13 false = true := by rw [getD_both hnot]; decide
    have d3 := hdep 3 (by kernel_rfl)
    obtain rfl := f3 d3
    have HK := PLift.up hK
    clear hK d3
    simp only [pa11A]
    go_simp
    have gg : Gr w w := Gr.refl _
    refine HK.down _ _ ⟨_, _, _, _, _, _, _, _, _, _, _, _, _, _, _, _, rfl, gw, fun q => f0 (done_old q (by decide)), fun q => f1 (done_old q (by decide)), fun q => f2 (done_old q (by decide)), fun q => f3 (done_old q (by decide)), fun q => f4 (done_old q (by decide)), fun q => f5 (done_old q (by decide)), fun q => f6 (done_old q (by decide)), fun q => f7 (done_old q (by decide)), fun q => f8 (done_old q (by decide)), fun q => f9 (done_old q (by decide)), fun q => f10 (done_old q (by decide)), fun q => f11 (done_old q (by decide)), fun q => f12 (done_old q (by decide)), ?_, fun q => f14 (done_old q (by decide)), fun q => f15 (done_old q (by decide))⟩
    exact fun _ => trivial
  · rintro done a w hsz hnot hdep ⟨t39, t40, t41, t42, t43, t44, t45, t46, t47, t48, t49, t50, t51, t52, t53, t54, rfl, gw, f0, f1, f2, f3, f4, f5, f6, f7, f8, f9, f10, f11, f12, f13, f14, f15⟩ K hK
    have hn : ¬ done.getD 14 false = true := by rw [getD_both hnot]; decide
    have d3 := hdep 3 (by kernel_rfl)
    obtain rfl := f3 d3
    have HK := PLift.up hK
    clear hK d3
    simp only [pa11A]
    go_simp
    have gg : Gr w w := Gr.refl _
    refine HK.down _ _ ⟨_, _, _, _, _, _, _, _, _, _, _, _, _, _, _, _, rfl, gw, fun q => f0 (done_old q (by decide)), fun q => f1 (done_old q (by decide)), fun q => f2 (done_old q (by decide)), fun q => f3 (done_old q (by decide)), fun q => f4 (done_old q (by decide)), fun q => f5 (done_old q (by decide)), fun q => f6 (done_old q (by decide)), fun q => f7 (done_old q (by decide)), fun q => f8 (done_old q (by decide)), fun q => f9 (done_old q (by decide)), fun q => f10 (done_old q (by decide)), fun q => f11 (done_old q (by decide)), fun q => f12 (done_old q (by decide)), fun q => f13 (done_old q (by decide)), fun _ => rfl, fun q => f15 (done_old q (by decide))⟩
  · rintro done a w hsz hnot hdep ⟨t39, t40, t41, t42, t43, t44, t45, t46, t47, t48, t49, t50, t51, t52, t53, t54, rfl, gw, f0, f1, f2, f3, f4, f5, f6, f7, f8, f9, f10, f11, f12, f13, f14, f15⟩ K hK
    have hn : ¬ done.getD 15 false = true := by rw [getD_both hnot]; decide
    have d14 := hdep 14 (by kernel_rfl)
    obtain rfl := f14 d14
    have HK := PLift.up hK
    clear hK d14
    simp only [pa11A]
    go_simp
    have gg : Gr w w := Gr.refl _
    refine HK.down _ _ ⟨_, _, _, _, _, _, _, _, _, _, _, _, _, _, _, _, rfl, gw, fun q => f0 (done_old q (by decide)), fun q => f1 (done_old q (by decide)), fun q => f2 (done_old q (by decide)), fun q => f3 (done_old q (by decide)), fun q => f4 (done_old q (by decide)), fun q => f5 (done_old q (by decide)), fun q => f6 (done_old q (by decide)), fun q => f7 (done_old q (by decide)), fun q => f8 (done_old q (by decide)), fun q => f9 (done_old q (by decide)), fun q => f10 (done_old q (by decide)), fun q => f11 (done_old q (by decide)), fun q => f12 (done_old q (by decide)), fun q => f13 (done_old q (by decide)), fun q => f14 (done_old q (by decide)), fun _ => rfl⟩
  · rintro done a w hall ⟨t39, t40, t41, t42, t43, t44, t45, t46, t47, t48, t49, t50, t51, t52, t53, t54, rfl, gw, f0, f1, f2, f3, f4, f5, f6, f7, f8, f9, f10, f11, f12, f13, f14, f15⟩
    exact h' _ _ _ _ _ _ _ _ _ _ _ _ _ _ _ _ w (f15 (hall 15 (by decide))) gw
/-- What is known of each slot as soon as its operation is done. -/
def pa21F (wr : World) (t92 t93 t94 t95 t96 t97 t98 t99 t100 t101 t102 t103 t104 t105 t106 t107 t108 : Value) (d : Array Bool) (w : World) : Prop :=
  Gr wr w ∧ (d.getD 0 false = true → t93 = .int .i64 0) ∧
  (d.getD 1 false = true → t94 = .bool false) ∧
  (d.getD 2 false = true → t95 = .bool false) ∧
  (d.getD 3 false = true → True) ∧
  (d.getD 4 false = true → True) ∧
  (d.getD 5 false = true → True) ∧
  (d.getD 6 false = true → True) ∧
  (d.getD 7 false = true → True) ∧
  (d.getD 8 false = true → True) ∧
  (d.getD 9 false = true → True) ∧
  (d.getD 10 false = true → True) ∧
  (d.getD 11 false = true → True) ∧
  (d.getD 12 false = true → True) ∧
  (d.getD 13 false = true → True) ∧
  (d.getD 14 false = true → True) ∧
  (d.getD 15 false = true → t108 = .bool false) ∧
  (d.getD 16 false = true → t92 = .bool false)
/-- The frame. -/
def pa21A  (t92 t93 t94 t95 t96 t97 t98 t99 t100 t101 t102 t103 t104 t105 t106 t107 t108 s0 s1 s2 s3 s4 s5 s6 s7 s8 s9 s10 s11 s12 s13 s14 s16 s17 s18 s19 s20 s21 s22 s23 s24 s25 s26 s27 s28 s29 s30 s31 s32 s33 s34 s35 s36 s37 s38 s39 s40 s41 s42 s43 s44 s45 s46 s47 s48 s49 s50 s51 s52 s53 s54 s55 s56 s57 s58 s59 s60 s61 s62 s63 s64 s65 s66 s67 s68 s69 s70 s71 s72 s73 s74 s75 s76 s77 s78 s79 s80 s81 s82 s83 s84 s85 s86 s87 s88 s89 s90 s91 s109 s110 s111 s112 s113 s114 s115 s116 s117 s118 s119 s120 s121 s122 s123 s124 : Value) : Act := { tmps := #[s0, s1, s2, s3, s4, s5, s6, s7, s8, s9, s10, s11, s12, s13, s14, .int .i64 0, s16, s17, s18, s19, s20, s21, s22, s23, s24, s25, s26, s27, s28, s29, s30, s31, s32, s33, s34, s35, s36, s37, s38, s39, s40, s41, s42, s43, s44, s45, s46, s47, s48, s49, s50, s51, s52, s53, s54, s55, s56, s57, s58, s59, s60, s61, s62, s63, s64, s65, s66, s67, s68, s69, s70, s71, s72, s73, s74, s75, s76, s77, s78, s79, s80, s81, s82, s83, s84, s85, s86, s87, s88, s89, s90, s91, t92, t93, t94, t95, t96, t97, t98, t99, t100, t101, t102, t103, t104, t105, t106, t107, t108, s109, s110, s111, s112, s113, s114, s115, s116, s117, s118, s119, s120, s121, s122, s123, s124], defers := [] }

set_option maxRecDepth 100000 in
set_option maxHeartbeats 4000000 in
theorem pa21 {Q : Exit → Act → World → Prop} {wr : World}  {s0 s1 s2 s3 s4 s5 s6 s7 s8 s9 s10 s11 s12 s13 s14 s16 s17 s18 s19 s20 s21 s22 s23 s24 s25 s26 s27 s28 s29 s30 s31 s32 s33 s34 s35 s36 s37 s38 s39 s40 s41 s42 s43 s44 s45 s46 s47 s48 s49 s50 s51 s52 s53 s54 s55 s56 s57 s58 s59 s60 s61 s62 s63 s64 s65 s66 s67 s68 s69 s70 s71 s72 s73 s74 s75 s76 s77 s78 s79 s80 s81 s82 s83 s84 s85 s86 s87 s88 s89 s90 s91 s92 s93 s94 s95 s96 s97 s98 s99 s100 s101 s102 s103 s104 s105 s106 s107 s108 s109 s110 s111 s112 s113 s114 s115 s116 s117 s118 s119 s120 s121 s122 s123 s124 : Value} 
    (h' : ∀ t92 t93 t94 t95 t96 t97 t98 t99 t100 t101 t102 t103 t104 t105 t106 t107 t108 wx, t92 = .bool false → Gr wr wx → Q .normal (pa21A  t92 t93 t94 t95 t96 t97 t98 t99 t100 t101 t102 t103 t104 t105 t106 t107 t108 s0 s1 s2 s3 s4 s5 s6 s7 s8 s9 s10 s11 s12 s13 s14 s16 s17 s18 s19 s20 s21 s22 s23 s24 s25 s26 s27 s28 s29 s30 s31 s32 s33 s34 s35 s36 s37 s38 s39 s40 s41 s42 s43 s44 s45 s46 s47 s48 s49 s50 s51 s52 s53 s54 s55 s56 s57 s58 s59 s60 s61 s62 s63 s64 s65 s66 s67 s68 s69 s70 s71 s72 s73 s74 s75 s76 s77 s78 s79 s80 s81 s82 s83 s84 s85 s86 s87 s88 s89 s90 s91 s109 s110 s111 s112 s113 s114 s115 s116 s117 s118 s119 s120 s121 s122 s123 s124) wx) :
    (Code.region 21 (regIn 21 Tryz.f9) true).wp Tryz.prog Q { tmps := #[s0, s1, s2, s3, s4, s5, s6, s7, s8, s9, s10, s11, s12, s13, s14, .int .i64 0, s16, s17, s18, s19, s20, s21, s22, s23, s24, s25, s26, s27, s28, s29, s30, s31, s32, s33, s34, s35, s36, s37, s38, s39, s40, s41, s42, s43, s44, s45, s46, s47, s48, s49, s50, s51, s52, s53, s54, s55, s56, s57, s58, s59, s60, s61, s62, s63, s64, s65, s66, s67, s68, s69, s70, s71, s72, s73, s74, s75, s76, s77, s78, s79, s80, s81, s82, s83, s84, s85, s86, s87, s88, s89, s90, s91, s92, s93, s94, s95, s96, s97, s98, s99, s100, s101, s102, s103, s104, s105, s106, s107, s108, s109, s110, s111, s112, s113, s114, s115, s116, s117, s118, s119, s120, s121, s122, s123, s124], defers := [] } wr := by

  simp only [regIn, Tryz.f9, regOps, Option.bind_some, Option.getD_some, Nat.beq, cond_true, cond_false]
  refine wp_region_steps (fun done a w => ∃ t92 t93 t94 t95 t96 t97 t98 t99 t100 t101 t102 t103 t104 t105 t106 t107 t108, a = pa21A  t92 t93 t94 t95 t96 t97 t98 t99 t100 t101 t102 t103 t104 t105 t106 t107 t108 s0 s1 s2 s3 s4 s5 s6 s7 s8 s9 s10 s11 s12 s13 s14 s16 s17 s18 s19 s20 s21 s22 s23 s24 s25 s26 s27 s28 s29 s30 s31 s32 s33 s34 s35 s36 s37 s38 s39 s40 s41 s42 s43 s44 s45 s46 s47 s48 s49 s50 s51 s52 s53 s54 s55 s56 s57 s58 s59 s60 s61 s62 s63 s64 s65 s66 s67 s68 s69 s70 s71 s72 s73 s74 s75 s76 s77 s78 s79 s80 s81 s82 s83 s84 s85 s86 s87 s88 s89 s90 s91 s109 s110 s111 s112 s113 s114 s115 s116 s117 s118 s119 s120 s121 s122 s123 s124 ∧ pa21F wr t92 t93 t94 t95 t96 t97 t98 t99 t100 t101 t102 t103 t104 t105 t106 t107 t108 done w) (by kernel_rfl) (by kernel_rfl) ?_ ⟨?_, ?_, ?_, ?_, ?_, ?_, ?_, ?_, ?_, ?_, ?_, ?_, ?_, ?_, ?_, ?_, ?_, trivial⟩ ?_
  · exact ⟨s92, s93, s94, s95, s96, s97, s98, s99, s100, s101, s102, s103, s104, s105, s106, s107, s108, rfl, (Gr.refl _).drew, fun q => absurd q (by decide), fun q => absurd q (by decide), fun q => absurd q (by decide), fun q => absurd q (by decide), fun q => absurd q (by decide), fun q => absurd q (by decide), fun q => absurd q (by decide), fun q => absurd q (by decide), fun q => absurd q (by decide), fun q => absurd q (by decide), fun q => absurd q (by decide), fun q => absurd q (by decide), fun q => absurd q (by decide), fun q => absurd q (by decide), fun q => absurd q (by decide), fun q => absurd q (by decide), fun q => absurd q (by decide)⟩
  · rintro done a w hsz hnot hdep ⟨t92, t93, t94, t95, t96, t97, t98, t99, t100, t101, t102, t103, t104, t105, t106, t107, t108, rfl, gw, f0, f1, f2, f3, f4, f5, f6, f7, f8, f9, f10, f11, f12, f13, f14, f15, f16⟩ K hK
    have hn : ¬ done.getD 0 false = true := by rw [getD_both hnot]; decide
    have HK := PLift.up hK
    clear hK 
    simp only [pa21A]
    go_simp
    have gg : Gr w w := Gr.refl _
    refine HK.down _ _ ⟨_, _, _, _, _, _, _, _, _, _, _, _, _, _, _, _, _, rfl, gw, fun _ => rfl, fun q => f1 (done_old q (by decide)), fun q => f2 (done_old q (by decide)), fun q => f3 (done_old q (by decide)), fun q => f4 (done_old q (by decide)), fun q => f5 (done_old q (by decide)), fun q => f6 (done_old q (by decide)), fun q => f7 (done_old q (by decide)), fun q => f8 (done_old q (by decide)), fun q => f9 (done_old q (by decide)), fun q => f10 (done_old q (by decide)), fun q => f11 (done_old q (by decide)), fun q => f12 (done_old q (by decide)), fun q => f13 (done_old q (by decide)), fun q => f14 (done_old q (by decide)), fun q => f15 (done_old q (by decide)), fun q => f16 (done_old q (by decide))⟩
  · rintro done a w hsz hnot hdep ⟨t92, t93, t94, t95, t96, t97, t98, t99, t100, t101, t102, t103, t104, t105, t106, t107, t108, rfl, gw, f0, f1, f2, f3, f4, f5, f6, f7, f8, f9, f10, f11, f12, f13, f14, f15, f16⟩ K hK
    have hn : ¬ done.getD 1 false = true := by rw [getD_both hnot]; decide
    have d0 := hdep 0 (by kernel_rfl)
    obtain rfl := f0 d0
    have HK := PLift.up hK
    clear hK d0
    simp only [pa21A]
    go_simp
    have gg : Gr w w := Gr.refl _
    refine HK.down _ _ ⟨_, _, _, _, _, _, _, _, _, _, _, _, _, _, _, _, _, rfl, gw, fun q => f0 (done_old q (by decide)), fun _ => rfl, fun q => f2 (done_old q (by decide)), fun q => f3 (done_old q (by decide)), fun q => f4 (done_old q (by decide)), fun q => f5 (done_old q (by decide)), fun q => f6 (done_old q (by decide)), fun q => f7 (done_old q (by decide)), fun q => f8 (done_old q (by decide)), fun q => f9 (done_old q (by decide)), fun q => f10 (done_old q (by decide)), fun q => f11 (done_old q (by decide)), fun q => f12 (done_old q (by decide)), fun q => f13 (done_old q (by decide)), fun q => f14 (done_old q (by decide)), fun q => f15 (done_old q (by decide)), fun q => f16 (done_old q (by decide))⟩
  · rintro done a w hsz hnot hdep ⟨t92, t93, t94, t95, t96, t97, t98, t99, t100, t101, t102, t103, t104, t105, t106, t107, t108, rfl, gw, f0, f1, f2, f3, f4, f5, f6, f7, f8, f9, f10, f11, f12, f13, f14, f15, f16⟩ K hK
    have hn : ¬ done.getD 2 false = true := by rw [getD_both hnot]; decide
    have d1 := hdep 1 (by kernel_rfl)
    obtain rfl := f1 d1
    have HK := PLift.up hK
    clear hK d1
    simp only [pa21A]
    go_simp
    have gg : Gr w w := Gr.refl _
    refine HK.down _ _ ⟨_, _, _, _, _, _, _, _, _, _, _, _, _, _, _, _, _, rfl, gw, fun q => f0 (done_old q (by decide)), fun q => f1 (done_old q (by decide)), fun _ => rfl, fun q => f3 (done_old q (by decide)), fun q => f4 (done_old q (by decide)), fun q => f5 (done_old q (by decide)), fun q => f6 (done_old q (by decide)), fun q => f7 (done_old q (by decide)), fun q => f8 (done_old q (by decide)), fun q => f9 (done_old q (by decide)), fun q => f10 (done_old q (by decide)), fun q => f11 (done_old q (by decide)), fun q => f12 (done_old q (by decide)), fun q => f13 (done_old q (by decide)), fun q => f14 (done_old q (by decide)), fun q => f15 (done_old q (by decide)), fun q => f16 (done_old q (by decide))⟩
  · rintro done a w hsz hnot hdep ⟨t92, t93, t94, t95, t96, t97, t98, t99, t100, t101, t102, t103, t104, t105, t106, t107, t108, rfl, gw, f0, f1, f2, f3, f4, f5, f6, f7, f8, f9, f10, f11, f12, f13, f14, f15, f16⟩ K hK
    have hn : ¬ done.getD 3 false = true := by rw [getD_both hnot]; decide
    have d2 := hdep 2 (by kernel_rfl)
    obtain rfl := f2 d2
    have HK := PLift.up hK
    clear hK d2
    simp only [pa21A]
    go_simp
    have gg : Gr w w := Gr.refl _
    refine HK.down _ _ ⟨_, _, _, _, _, _, _, _, _, _, _, _, _, _, _, _, _, rfl, gw, fun q => f0 (done_old q (by decide)), fun q => f1 (done_old q (by decide)), fun q => f2 (done_old q (by decide)), ?_, fun q => f4 (done_old q (by decide)), fun q => f5 (done_old q (by decide)), fun q => f6 (done_old q (by decide)), fun q => f7 (done_old q (by decide)), fun q => f8 (done_old q (by decide)), fun q => f9 (done_old q (by decide)), fun q => f10 (done_old q (by decide)), fun q => f11 (done_old q (by decide)), fun q => f12 (done_old q (by decide)), fun q => f13 (done_old q (by decide)), fun q => f14 (done_old q (by decide)), fun q => f15 (done_old q (by decide)), fun q => f16 (done_old q (by decide))⟩
    exact fun _ => trivial
  · rintro done a w hsz hnot hdep ⟨t92, t93, t94, t95, t96, t97, t98, t99, t100, t101, t102, t103, t104, t105, t106, t107, t108, rfl, gw, f0, f1, f2, f3, f4, f5, f6, f7, f8, f9, f10, f11, f12, f13, f14, f15, f16⟩ K hK
    have hn : ¬ done.getD 4 false = true := by rw [getD_both hnot]; decide
    have d2 := hdep 2 (by kernel_rfl)
    obtain rfl := f2 d2
    have HK := PLift.up hK
    clear hK d2
    simp only [pa21A]
    go_simp
    have gg : Gr w w := Gr.refl _
    refine HK.down _ _ ⟨_, _, _, _, _, _, _, _, _, _, _, _, _, _, _, _, _, rfl, gw, fun q => f0 (done_old q (by decide)), fun q => f1 (done_old q (by decide)), fun q => f2 (done_old q (by decide)), fun q => f3 (done_old q (by decide)), ?_, fun q => f5 (done_old q (by decide)), fun q => f6 (done_old q (by decide)), fun q => f7 (done_old q (by decide)), fun q => f8 (done_old q (by decide)), fun q => f9 (done_old q (by decide)), fun q => f10 (done_old q (by decide)), fun q => f11 (done_old q (by decide)), fun q => f12 (done_old q (by decide)), fun q => f13 (done_old q (by decide)), fun q => f14 (done_old q (by decide)), fun q => f15 (done_old q (by decide)), fun q => f16 (done_old q (by decide))⟩
    exact fun _ => trivial
  · rintro done a w hsz hnot hdep ⟨t92, t93, t94, t95, t96, t97, t98, t99, t100, t101, t102, t103, t104, t105, t106, t107, t108, rfl, gw, f0, f1, f2, f3, f4, f5, f6, f7, f8, f9, f10, f11, f12, f13, f14, f15, f16⟩ K hK
    have hn : ¬ done.getD 5 false = true := by rw [getD_both hnot]; decide
    have d2 := hdep 2 (by kernel_rfl)
    obtain rfl := f2 d2
    have HK := PLift.up hK
    clear hK d2
    simp only [pa21A]
    go_simp
    have gg : Gr w w := Gr.refl _
    refine HK.down _ _ ⟨_, _, _, _, _, _, _, _, _, _, _, _, _, _, _, _, _, rfl, gw, fun q => f0 (done_old q (by decide)), fun q => f1 (done_old q (by decide)), fun q => f2 (done_old q (by decide)), fun q => f3 (done_old q (by decide)), fun q => f4 (done_old q (by decide)), ?_, fun q => f6 (done_old q (by decide)), fun q => f7 (done_old q (by decide)), fun q => f8 (done_old q (by decide)), fun q => f9 (done_old q (by decide)), fun q => f10 (done_old q (by decide)), fun q => f11 (done_old q (by decide)), fun q => f12 (done_old q (by decide)), fun q => f13 (done_old q (by decide)), fun q => f14 (done_old q (by decide)), fun q => f15 (done_old q (by decide)), fun q => f16 (done_old q (by decide))⟩
    exact fun _ => trivial
  · rintro done a w hsz hnot hdep ⟨t92, t93, t94, t95, t96, t97, t98, t99, t100, t101, t102, t103, t104, t105, t106, t107, t108, rfl, gw, f0, f1, f2, f3, f4, f5, f6, f7, f8, f9, f10, f11, f12, f13, f14, f15, f16⟩ K hK
    have hn : ¬ done.getD 6 false = true := by rw [getD_both hnot]; decide
    have d2 := hdep 2 (by kernel_rfl)
    obtain rfl := f2 d2
    have HK := PLift.up hK
    clear hK d2
    simp only [pa21A]
    go_simp
    have gg : Gr w w := Gr.refl _
    refine HK.down _ _ ⟨_, _, _, _, _, _, _, _, _, _, _, _, _, _, _, _, _, rfl, gw, fun q => f0 (done_old q (by decide)), fun q => f1 (done_old q (by decide)), fun q => f2 (done_old q (by decide)), fun q => f3 (done_old q (by decide)), fun q => f4 (done_old q (by decide)), fun q => f5 (done_old q (by decide)), ?_, fun q => f7 (done_old q (by decide)), fun q => f8 (done_old q (by decide)), fun q => f9 (done_old q (by decide)), fun q => f10 (done_old q (by decide)), fun q => f11 (done_old q (by decide)), fun q => f12 (done_old q (by decide)), fun q => f13 (done_old q (by decide)), fun q => f14 (done_old q (by decide)), fun q => f15 (done_old q (by decide)), fun q => f16 (done_old q (by decide))⟩
    exact fun _ => trivial
  · rintro done a w hsz hnot hdep ⟨t92, t93, t94, t95, t96, t97, t98, t99, t100, t101, t102, t103, t104, t105, t106, t107, t108, rfl, gw, f0, f1, f2, f3, f4, f5, f6, f7, f8, f9, f10, f11, f12, f13, f14, f15, f16⟩ K hK
    have hn : ¬ done.getD 7 false = true := by rw [getD_both hnot]; decide
    have d2 := hdep 2 (by kernel_rfl)
    obtain rfl := f2 d2
    have HK := PLift.up hK
    clear hK d2
    simp only [pa21A]
    go_simp
    have gg : Gr w w := Gr.refl _
    refine HK.down _ _ ⟨_, _, _, _, _, _, _, _, _, _, _, _, _, _, _, _, _, rfl, gw, fun q => f0 (done_old q (by decide)), fun q => f1 (done_old q (by decide)), fun q => f2 (done_old q (by decide)), fun q => f3 (done_old q (by decide)), fun q => f4 (done_old q (by decide)), fun q => f5 (done_old q (by decide)), fun q => f6 (done_old q (by decide)), ?_, fun q => f8 (done_old q (by decide)), fun q => f9 (done_old q (by decide)), fun q => f10 (done_old q (by decide)), fun q => f11 (done_old q (by decide)), fun q => f12 (done_old q (by decide)), fun q => f13 (done_old q (by decide)), fun q => f14 (done_old q (by decide)), fun q => f15 (done_old q (by decide)), fun q => f16 (done_old q (by decide))⟩
    exact fun _ => trivial
  · rintro done a w hsz hnot hdep ⟨t92, t93, t94, t95, t96, t97, t98, t99, t100, t101, t102, t103, t104, t105, t106, t107, t108, rfl, gw, f0, f1, f2, f3, f4, f5, f6, f7, f8, f9, f10, f11, f12, f13, f14, f15, f16⟩ K hK
    have hn : ¬ done.getD 8 false = true := by rw [getD_both hnot]; decide
    have d2 := hdep 2 (by kernel_rfl)
    obtain rfl := f2 d2
    have HK := PLift.up hK
    clear hK d2
    simp only [pa21A]
    go_simp
    have gg : Gr w w := Gr.refl _
    refine HK.down _ _ ⟨_, _, _, _, _, _, _, _, _, _, _, _, _, _, _, _, _, rfl, gw, fun q => f0 (done_old q (by decide)), fun q => f1 (done_old q (by decide)), fun q => f2 (done_old q (by decide)), fun q => f3 (done_old q (by decide)), fun q => f4 (done_old q (by decide)), fun q => f5 (done_old q (by decide)), fun q => f6 (done_old q (by decide)), fun q => f7 (done_old q (by decide)), ?_, fun q => f9 (done_old q (by decide)), fun q => f10 (done_old q (by decide)), fun q => f11 (done_old q (by decide)), fun q => f12 (done_old q (by decide)), fun q => f13 (done_old q (by decide)), fun q => f14 (done_old q (by decide)), fun q => f15 (done_old q (by decide)), fun q => f16 (done_old q (by decide))⟩
    exact fun _ => trivial
  · rintro done a w hsz hnot hdep ⟨t92, t93, t94, t95, t96, t97, t98, t99, t100, t101, t102, t103, t104, t105, t106, t107, t108, rfl, gw, f0, f1, f2, f3, f4, f5, f6, f7, f8, f9, f10, f11, f12, f13, f14, f15, f16⟩ K hK
    have hn : ¬ done.getD 9 false = true := by rw [getD_both hnot]; decide
    have d2 := hdep 2 (by kernel_rfl)
    obtain rfl := f2 d2
    have HK := PLift.up hK
    clear hK d2
    simp only [pa21A]
    go_simp
    have gg : Gr w w := Gr.refl _
    refine HK.down _ _ ⟨_, _, _, _, _, _, _, _, _, _, _, _, _, _, _, _, _, rfl, gw, fun q => f0 (done_old q (by decide)), fun q => f1 (done_old q (by decide)), fun q => f2 (done_old q (by decide)), fun q => f3 (done_old q (by decide)), fun q => f4 (done_old q (by decide)), fun q => f5 (done_old q (by decide)), fun q => f6 (done_old q (by decide)), fun q => f7 (done_old q (by decide)), fun q => f8 (done_old q (by decide)), ?_, fun q => f10 (done_old q (by decide)), fun q => f11 (done_old q (by decide)), fun q => f12 (done_old q (by decide)), fun q => f13 (done_old q (by decide)), fun q => f14 (done_old q (by decide)), fun q => f15 (done_old q (by decide)), fun q => f16 (done_old q (by decide))⟩
    exact fun _ => trivial
  · rintro done a w hsz hnot hdep ⟨t92, t93, t94, t95, t96, t97, t98, t99, t100, t101, t102, t103, t104, t105, t106, t107, t108, rfl, gw, f0, f1, f2, f3, f4, f5, f6, f7, f8, f9, f10, f11, f12, f13, f14, f15, f16⟩ K hK
    have hn : ¬ done.getD 10 false = true := by rw [getD_both hnot]; decide
    have d2 := hdep 2 (by kernel_rfl)
    obtain rfl := f2 d2
    have HK := PLift.up hK
    clear hK d2
    simp only [pa21A]
    go_simp
    have gg : Gr w w := Gr.refl _
    refine HK.down _ _ ⟨_, _, _, _, _, _, _, _, _, _, _, _, _, _, _, _, _, rfl, gw, fun q => f0 (done_old q (by decide)), fun q => f1 (done_old q (by decide)), fun q => f2 (done_old q (by decide)), fun q => f3 (done_old q (by decide)), fun q => f4 (done_old q (by decide)), fun q => f5 (done_old q (by decide)), fun q => f6 (done_old q (by decide)), fun q => f7 (done_old q (by decide)), fun q => f8 (done_old q (by decide)), fun q => f9 (done_old q (by decide)), ?_, fun q => f11 (done_old q (by decide)), fun q => f12 (done_old q (by decide)), fun q => f13 (done_old q (by decide)), fun q => f14 (done_old q (by decide)), fun q => f15 (done_old q (by decide)), fun q => f16 (done_old q (by decide))⟩
    exact fun _ => trivial
  · rintro done a w hsz hnot hdep ⟨t92, t93, t94, t95, t96, t97, t98, t99, t100, t101, t102, t103, t104, t105, t106, t107, t108, rfl, gw, f0, f1, f2, f3, f4, f5, f6, f7, f8, f9, f10, f11, f12, f13, f14, f15, f16⟩ K hK
    have hn : ¬ done.getD 11 false = true := by rw [getD_both hnot]; decide
    have d2 := hdep 2 (by kernel_rfl)
    obtain rfl := f2 d2
    have HK := PLift.up hK
    clear hK d2
    simp only [pa21A]
    go_simp
    have gg : Gr w w := Gr.refl _
    refine HK.down _ _ ⟨_, _, _, _, _, _, _, _, _, _, _, _, _, _, _, _, _, rfl, gw, fun q => f0 (done_old q (by decide)), fun q => f1 (done_old q (by decide)), fun q => f2 (done_old q (by decide)), fun q => f3 (done_old q (by decide)), fun q => f4 (done_old q (by decide)), fun q => f5 (done_old q (by decide)), fun q => f6 (done_old q (by decide)), fun q => f7 (done_old q (by decide)), fun q => f8 (done_old q (by decide)), fun q => f9 (done_old q (by decide)), fun q => f10 (done_old q (by decide)), ?_, fun q => f12 (done_old q (by decide)), fun q => f13 (done_old q (by decide)), fun q => f14 (done_old q (by decide)), fun q => f15 (done_old q (by decide)), fun q => f16 (done_old q (by decide))⟩
    exact fun _ => trivial
  · rintro done a w hsz hnot hdep ⟨t92, t93, t94, t95, t96, t97, t98, t99, t100, t101, t102, t103, t104, t105, t106, t107, t108, rfl, gw, f0, f1, f2, f3, f4, f5, f6, f7, f8, f9, f10, f11, f12, f13, f14, f15, f16⟩ K hK
    have hn : ¬ done.getD 12 false = true := by rw [getD_both hnot]; decide
    have d2 := hdep 2 (by kernel_rfl)
    obtain rfl := f2 d2
    have HK := PLift.up hK
    clear hK d2
    simp only [pa21A]
    go_simp
    have gg : Gr w w := Gr.refl _
    refine HK.down _ _ ⟨_, _, _, _, _, _, _, _, _, _, _, _, _, _, _, _, _, rfl, gw, fun q => f0 (done_old q (by decide)), fun q => f1 (done_old q (by decide)), fun q => f2 (done_old q (by decide)), fun q => f3 (done_old q (by decide)), fun q => f4 (done_old q (by decide)), fun q => f5 (done_old q (by decide)), fun q => f6 (done_old q (by decide)), fun q => f7 (done_old q (by decide)), fun q => f8 (done_old q (by decide)), fun q => f9 (done_old q (by decide)), fun q => f10 (done_old q (by decide)), fun q => f11 (done_old q (by decide)), ?_, fun q => f13 (done_old q (by decide)), fun q => f14 (done_old q (by decide)), fun q => f15 (done_old q (by decide)), fun q => f16 (done_old q (by decide))⟩
    exact fun _ => trivial
  · rintro done a w hsz hnot hdep ⟨t92, t93, t94, t95, t96, t97, t98, t99, t100, t101, t102, t103, t104, t105, t106, t107, t108, rfl, gw, f0, f1, f2, f3, f4, f5, f6, f7, f8, f9, f10, f11, f12, f13, f14, f15, f16⟩ K hK
    have hn : ¬ done.getD 13 false = true := by rw [getD_both hnot]; decide
    have d2 := hdep 2 (by kernel_rfl)
    obtain rfl := f2 d2
    have HK := PLift.up hK
    clear hK d2
    simp only [pa21A]
    go_simp
    have gg : Gr w w := Gr.refl _
    refine HK.down _ _ ⟨_, _, _, _, _, _, _, _, _, _, _, _, _, _, _, _, _, rfl, gw, fun q => f0 (done_old q (by decide)), fun q => f1 (done_old q (by decide)), fun q => f2 (done_old q (by decide)), fun q => f3 (done_old q (by decide)), fun q => f4 (done_old q (by decide)), fun q => f5 (done_old q (by decide)), fun q => f6 (done_old q (by decide)), fun q => f7 (done_old q (by decide)), fun q => f8 (done_old q (by decide)), fun q => f9 (done_old q (by decide)), fun q => f10 (done_old q (by decide)), fun q => f11 (done_old q (by decide)), fun q => f12 (done_old q (by decide)), ?_, fun q => f14 (done_old q (by decide)), fun q => f15 (done_old q (by decide)), fun q => f16 (done_old q (by decide))⟩
    exact fun _ => trivial
  · rintro done a w hsz hnot hdep ⟨t92, t93, t94, t95, t96, t97, t98, t99, t100, t101, t102, t103, t104, t105, t106, t107, t108, rfl, gw, f0, f1, f2, f3, f4, f5, f6, f7, f8, f9, f10, f11, f12, f13, f14, f15, f16⟩ K hK
    have hn : ¬ done.getD 14 false = true := by rw [getD_both hnot]; decide
    have d2 := hdep 2 (by kernel_rfl)
    obtain rfl := f2 d2
    have HK := PLift.up hK
    clear hK d2
    simp only [pa21A]
    go_simp
    have gg : Gr w w := Gr.refl _
    refine HK.down _ _ ⟨_, _, _, _, _, _, _, _, _, _, _, _, _, _, _, _, _, rfl, gw, fun q => f0 (done_old q (by decide)), fun q => f1 (done_old q (by decide)), fun q => f2 (done_old q (by decide)), fun q => f3 (done_old q (by decide)), fun q => f4 (done_old q (by decide)), fun q => f5 (done_old q (by decide)), fun q => f6 (done_old q (by decide)), fun q => f7 (done_old q (by decide)), fun q => f8 (done_old q (by decide)), fun q => f9 (done_old q (by decide)), fun q => f10 (done_old q (by decide)), fun q => f11 (done_old q (by decide)), fun q => f12 (done_old q (by decide)), fun q => f13 (done_old q (by decide)), ?_, fun q => f15 (done_old q (by decide)), fun q => f16 (done_old q (by decide))⟩
    exact fun _ => trivial
  · rintro done a w hsz hnot hdep ⟨t92, t93, t94, t95, t96, t97, t98, t99, t100, t101, t102, t103, t104, t105, t106, t107, t108, rfl, gw, f0, f1, f2, f3, f4, f5, f6, f7, f8, f9, f10, f11, f12, f13, f14, f15, f16⟩ K hK
    have hn : ¬ done.getD 15 false = true := by rw [getD_both hnot]; decide
    have d2 := hdep 2 (by kernel_rfl)
    obtain rfl := f2 d2
    have HK := PLift.up hK
    clear hK d2
    simp only [pa21A]
    go_simp
    have gg : Gr w w := Gr.refl _
    refine HK.down _ _ ⟨_, _, _, _, _, _, _, _, _, _, _, _, _, _, _, _, _, rfl, gw, fun q => f0 (done_old q (by decide)), fun q => f1 (done_old q (by decide)), fun q => f2 (done_old q (by decide)), fun q => f3 (done_old q (by decide)), fun q => f4 (done_old q (by decide)), fun q => f5 (done_old q (by decide)), fun q => f6 (done_old q (by decide)), fun q => f7 (done_old q (by decide)), fun q => f8 (done_old q (by decide)), fun q => f9 (done_old q (by decide)), fun q => f10 (done_old q (by decide)), fun q => f11 (done_old q (by decide)), fun q => f12 (done_old q (by decide)), fun q => f13 (done_old q (by decide)), fun q => f14 (done_old q (by decide)), fun _ => rfl, fun q => f16 (done_old q (by decide))⟩
  · rintro done a w hsz hnot hdep ⟨t92, t93, t94, t95, t96, t97, t98, t99, t100, t101, t102, t103, t104, t105, t106, t107, t108, rfl, gw, f0, f1, f2, f3, f4, f5, f6, f7, f8, f9, f10, f11, f12, f13, f14, f15, f16⟩ K hK
    have hn : ¬ done.getD 16 false = true := by rw [getD_both hnot]; decide
    have d15 := hdep 15 (by kernel_rfl)
    obtain rfl := f15 d15
    have HK := PLift.up hK
    clear hK d15
    simp only [pa21A]
    go_simp
    have gg : Gr w w := Gr.refl _
    refine HK.down _ _ ⟨_, _, _, _, _, _, _, _, _, _, _, _, _, _, _, _, _, rfl, gw, fun q => f0 (done_old q (by decide)), fun q => f1 (done_old q (by decide)), fun q => f2 (done_old q (by decide)), fun q => f3 (done_old q (by decide)), fun q => f4 (done_old q (by decide)), fun q => f5 (done_old q (by decide)), fun q => f6 (done_old q (by decide)), fun q => f7 (done_old q (by decide)), fun q => f8 (done_old q (by decide)), fun q => f9 (done_old q (by decide)), fun q => f10 (done_old q (by decide)), fun q => f11 (done_old q (by decide)), fun q => f12 (done_old q (by decide)), fun q => f13 (done_old q (by decide)), fun q => f14 (done_old q (by decide)), fun q => f15 (done_old q (by decide)), fun _ => rfl⟩
  · rintro done a w hall ⟨t92, t93, t94, t95, t96, t97, t98, t99, t100, t101, t102, t103, t104, t105, t106, t107, t108, rfl, gw, f0, f1, f2, f3, f4, f5, f6, f7, f8, f9, f10, f11, f12, f13, f14, f15, f16⟩
    exact h' _ _ _ _ _ _ _ _ _ _ _ _ _ _ _ _ _ w (f16 (hall 16 (by decide))) gw
end Go.Proofs.YtadldblpkgackaaGreatDoor
