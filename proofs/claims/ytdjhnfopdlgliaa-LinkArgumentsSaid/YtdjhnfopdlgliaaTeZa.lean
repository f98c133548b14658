/- A statement of LinkArguments by an invariant (printed by wip/tools/tez.py). -/
import Derived.Test.YtdjhnfopdlgliaaTeY
set_option linter.unusedVariables false
set_option linter.unusedSimpArgs false
namespace Go.Proofs.Ytdjhnfopdlgliaa
open Go.RowKit
open Classical

/-- After the store. -/
def FinZ (wr : World) (B2 : Nat) (V' : St) (w : World) : Prop :=
  ∃ B w1, w = w1.setCell ⟨B2, 5, none⟩ (.slice (some ⟨B, 0, none⟩) 1 1) ∧ Gr wr w1 ∧ Row w1 B 29 [.string (bs sC), .string (bs V')] ∧ wr.heap.size ≤ B
theorem gr_le {w w' : World} (h : Gr w w') : w.heap.size ≤ w'.heap.size := by
  obtain ⟨O, d, rfl⟩ := h
  have : (xt w O d).heap.size = w.heap.size + O.size := by simp [xt]
  omega
/-- What is known of each slot as soon as its operation is done. -/
def lz35F (wr : World) (B2 B3 : Nat) (V : St) (t150 t151 t152 t153 t154 t155 t156 t157 t158 t159 t160 : Value) (d : Array Bool) (w : World) : Prop :=
  (d.getD 11 false = false → Gr wr w) ∧ (d.getD 0 false = true → t150 = .pointer (some ⟨B3, 0, none⟩)) ∧
  (d.getD 1 false = true → t151 = .slice (some ⟨B2, 0, none⟩) 3 3) ∧
  (d.getD 2 false = true → t152 = .string (bs V)) ∧
  (d.getD 3 false = true → t153 = .string (bs V)) ∧
  (d.getD 4 false = true → t154 = .int .i64 (V.length : Int)) ∧
  (d.getD 5 false = true → t155 = .int .i64 ((V.length : Int) - 4)) ∧
  (d.getD 6 false = true → t156 = .string (bs (V.take (V.length - 4)))) ∧
  (d.getD 7 false = true → t157 = .agg #[.string (bs sC), .string (bs (V.take (V.length - 4)))]) ∧
  (d.getD 8 false = true → ∃ B, t158 = .slice (some ⟨B, 0, none⟩) 1 1 ∧ wr.heap.size ≤ B ∧ (d.getD 11 false = false → Row w B 29 [.string (bs sC), .string (bs (V.take (V.length - 4)))])) ∧
  (d.getD 9 false = true → t159 = .pointer (some ⟨B2, 3, none⟩)) ∧
  (d.getD 10 false = true → (t160 = .pointer (some ⟨B2, 5, none⟩) ∧ d.getD 9 false = true)) ∧
  (d.getD 11 false = true → ((∀ j, j < 11 → d.getD j false = true) ∧ FinZ wr B2 (V.take (V.length - 4)) w))
/-- The frame. -/
def lz35A (B3 : Nat) (V : St) (t150 t151 t152 t153 t154 t155 t156 t157 t158 t159 t160 s0 s1 s2 s3 s4 s5 s8 s9 s10 s11 s12 s13 s14 s15 s16 s17 s18 s19 s20 s21 s22 s23 s24 s25 s26 s27 s28 s29 s30 s31 s32 s33 s34 s35 s36 s37 s38 s39 s40 s41 s42 s43 s44 s45 s46 s47 s48 s49 s50 s51 s52 s53 s54 s55 s56 s57 s58 s59 s60 s61 s62 s63 s64 s65 s66 s67 s68 s69 s70 s71 s72 s73 s74 s75 s76 s77 s78 s79 s80 s81 s82 s83 s84 s85 s86 s87 s88 s89 s90 s91 s92 s93 s94 s95 s96 s97 s98 s99 s100 s101 s102 s103 s104 s105 s106 s107 s108 s109 s110 s111 s112 s113 s114 s115 s116 s117 s118 s119 s120 s121 s122 s123 s124 s125 s126 s127 s128 s129 s130 s131 s132 s133 s134 s135 s136 s137 s138 s139 s140 s141 s142 s143 s144 s145 s146 s147 s148 s149 s161 s162 s163 s164 s165 s166 s167 s168 s169 s170 : Value) : Act := { tmps := #[s0, s1, s2, s3, s4, s5, .pointer (some ⟨B3, 0, none⟩), .string (bs V), s8, s9, s10, s11, s12, s13, s14, s15, s16, s17, s18, s19, s20, s21, s22, s23, s24, s25, s26, s27, s28, s29, s30, s31, s32, s33, s34, s35, s36, s37, s38, s39, s40, s41, s42, s43, s44, s45, s46, s47, s48, s49, s50, s51, s52, s53, s54, s55, s56, s57, s58, s59, s60, s61, s62, s63, s64, s65, s66, s67, s68, s69, s70, s71, s72, s73, s74, s75, s76, s77, s78, s79, s80, s81, s82, s83, s84, s85, s86, s87, s88, s89, s90, s91, s92, s93, s94, s95, s96, s97, s98, s99, s100, s101, s102, s103, s104, s105, s106, s107, s108, s109, s110, s111, s112, s113, s114, s115, s116, s117, s118, s119, s120, s121, s122, s123, s124, s125, s126, s127, s128, s129, s130, s131, s132, s133, s134, s135, s136, s137, s138, s139, s140, s141, s142, s143, s144, s145, s146, s147, s148, s149, t150, t151, t152, t153, t154, t155, t156, t157, t158, t159, t160, s161, s162, s163, s164, s165, s166, s167, s168, s169, s170], defers := [] }

set_option maxRecDepth 100000 in
set_option maxHeartbeats 4000000 in
theorem lz35 {Q : Exit → Act → World → Prop} {wr : World} {B2 B3 : Nat} {V : St}  {s0 s1 s2 s3 s4 s5 s8 s9 s10 s11 s12 s13 s14 s15 s16 s17 s18 s19 s20 s21 s22 s23 s24 s25 s26 s27 s28 s29 s30 s31 s32 s33 s34 s35 s36 s37 s38 s39 s40 s41 s42 s43 s44 s45 s46 s47 s48 s49 s50 s51 s52 s53 s54 s55 s56 s57 s58 s59 s60 s61 s62 s63 s64 s65 s66 s67 s68 s69 s70 s71 s72 s73 s74 s75 s76 s77 s78 s79 s80 s81 s82 s83 s84 s85 s86 s87 s88 s89 s90 s91 s92 s93 s94 s95 s96 s97 s98 s99 s100 s101 s102 s103 s104 s105 s106 s107 s108 s109 s110 s111 s112 s113 s114 s115 s116 s117 s118 s119 s120 s121 s122 s123 s124 s125 s126 s127 s128 s129 s130 s131 s132 s133 s134 s135 s136 s137 s138 s139 s140 s141 s142 s143 s144 s145 s146 s147 s148 s149 s150 s151 s152 s153 s154 s155 s156 s157 s158 s159 s160 s161 s162 s163 s164 s165 s166 s167 s168 s169 s170 : Value} {u5 : Value} {ns : List Value} (hc3 : wr.cell? ⟨B3, 0, none⟩ = some (.slice (some ⟨B2, 0, none⟩) 3 3)) (hrn : Row wr B2 26 ns) (hc5 : wr.cell? ⟨B2, 5, none⟩ = some u5) (hvl : 4 ≤ V.length ∧ V.length ≤ 256)
    (h' : ∀ t150 t151 t152 t153 t154 t155 t156 t157 t158 t159 t160 wx, FinZ wr B2 (V.take (V.length - 4)) wx → Q .normal (lz35A B3 V t150 t151 t152 t153 t154 t155 t156 t157 t158 t159 t160 s0 s1 s2 s3 s4 s5 s8 s9 s10 s11 s12 s13 s14 s15 s16 s17 s18 s19 s20 s21 s22 s23 s24 s25 s26 s27 s28 s29 s30 s31 s32 s33 s34 s35 s36 s37 s38 s39 s40 s41 s42 s43 s44 s45 s46 s47 s48 s49 s50 s51 s52 s53 s54 s55 s56 s57 s58 s59 s60 s61 s62 s63 s64 s65 s66 s67 s68 s69 s70 s71 s72 s73 s74 s75 s76 s77 s78 s79 s80 s81 s82 s83 s84 s85 s86 s87 s88 s89 s90 s91 s92 s93 s94 s95 s96 s97 s98 s99 s100 s101 s102 s103 s104 s105 s106 s107 s108 s109 s110 s111 s112 s113 s114 s115 s116 s117 s118 s119 s120 s121 s122 s123 s124 s125 s126 s127 s128 s129 s130 s131 s132 s133 s134 s135 s136 s137 s138 s139 s140 s141 s142 s143 s144 s145 s146 s147 s148 s149 s161 s162 s163 s164 s165 s166 s167 s168 s169 s170) wx) :
    (Code.region 35 (regIn 35 Try.f3) true).wp Try.prog Q { tmps := #[s0, s1, s2, s3, s4, s5, .pointer (some ⟨B3, 0, none⟩), .string (bs V), s8, s9, s10, s11, s12, s13, s14, s15, s16, s17, s18, s19, s20, s21, s22, s23, s24, s25, s26, s27, s28, s29, s30, s31, s32, s33, s34, s35, s36, s37, s38, s39, s40, s41, s42, s43, s44, s45, s46, s47, s48, s49, s50, s51, s52, s53, s54, s55, s56, s57, s58, s59, s60, s61, s62, s63, s64, s65, s66, s67, s68, s69, s70, s71, s72, s73, s74, s75, s76, s77, s78, s79, s80, s81, s82, s83, s84, s85, s86, s87, s88, s89, s90, s91, s92, s93, s94, s95, s96, s97, s98, s99, s100, s101, s102, s103, s104, s105, s106, s107, s108, s109, s110, s111, s112, s113, s114, s115, s116, s117, s118, s119, s120, s121, s122, s123, s124, s125, s126, s127, s128, s129, s130, s131, s132, s133, s134, s135, s136, s137, s138, s139, s140, s141, s142, s143, s144, s145, s146, s147, s148, s149, s150, s151, s152, s153, s154, s155, s156, s157, s158, s159, s160, s161, s162, s163, s164, s165, s166, s167, s168, s169, s170], defers := [] } wr := by
  have C3 := PLift.up hc3
  have RN := PLift.up hrn
  have C5 := PLift.up hc5
  have VL := PLift.up hvl
  clear hc3 hrn hc5 hvl
  simp only [regIn, Try.f3, regOps, Option.bind_some, Option.getD_some, Nat.beq, cond_true, cond_false]
  refine wp_region_steps (fun done a w => ∃ t150 t151 t152 t153 t154 t155 t156 t157 t158 t159 t160, a = lz35A B3 V t150 t151 t152 t153 t154 t155 t156 t157 t158 t159 t160 s0 s1 s2 s3 s4 s5 s8 s9 s10 s11 s12 s13 s14 s15 s16 s17 s18 s19 s20 s21 s22 s23 s24 s25 s26 s27 s28 s29 s30 s31 s32 s33 s34 s35 s36 s37 s38 s39 s40 s41 s42 s43 s44 s45 s46 s47 s48 s49 s50 s51 s52 s53 s54 s55 s56 s57 s58 s59 s60 s61 s62 s63 s64 s65 s66 s67 s68 s69 s70 s71 s72 s73 s74 s75 s76 s77 s78 s79 s80 s81 s82 s83 s84 s85 s86 s87 s88 s89 s90 s91 s92 s93 s94 s95 s96 s97 s98 s99 s100 s101 s102 s103 s104 s105 s106 s107 s108 s109 s110 s111 s112 s113 s114 s115 s116 s117 s118 s119 s120 s121 s122 s123 s124 s125 s126 s127 s128 s129 s130 s131 s132 s133 s134 s135 s136 s137 s138 s139 s140 s141 s142 s143 s144 s145 s146 s147 s148 s149 s161 s162 s163 s164 s165 s166 s167 s168 s169 s170 ∧ lz35F wr B2 B3 V t150 t151 t152 t153 t154 t155 t156 t157 t158 t159 t160 done w) (by kernel_rfl) (by kernel_rfl) ?_ ⟨?_, ?_, ?_, ?_, ?_, ?_, ?_, ?_, ?_, ?_, ?_, ?_, trivial⟩ ?_
  · exact ⟨s150, s151, s152, s153, s154, s155, s156, s157, s158, s159, s160, rfl, fun _ => (Gr.refl _).drew, fun q => absurd q (by decide), fun q => absurd q (by decide), fun q => absurd q (by decide), fun q => absurd q (by decide), fun q => absurd q (by decide), fun q => absurd q (by decide), fun q => absurd q (by decide), fun q => absurd q (by decide), fun q => absurd q (by decide), fun q => absurd q (by decide), fun q => absurd q (by decide), fun q => absurd q (by decide)⟩
  · rintro done a w hsz hnot hdep ⟨t150, t151, t152, t153, t154, t155, t156, t157, t158, t159, t160, rfl, gw, f0, f1, f2, f3, f4, f5, f6, f7, f8, f9, f10, f11⟩ K hK
    have hn : ¬ done.getD 0 false = true := by rw [getD_both hnot]; decide
    have n11 : done.getD 11 false = false := by
      cases e : done.getD 11 false with
      | false => rfl
      | true => exact absurd ((f11 e).1 0 (by decide)) hn
    replace gw := gw n11
    clear n11
    have HK := PLift.up hK
    clear hK 
    simp only [lz35A]
    go_simp
    have gg : Gr w w := Gr.refl _
    refine HK.down _ _ ⟨_, _, _, _, _, _, _, _, _, _, _, rfl, fun _ => gw, fun _ => rfl, fun q => f1 (done_old q (by decide)), fun q => f2 (done_old q (by decide)), fun q => f3 (done_old q (by decide)), fun q => f4 (done_old q (by decide)), fun q => f5 (done_old q (by decide)), fun q => f6 (done_old q (by decide)), fun q => f7 (done_old q (by decide)), fun q => (let ⟨B, e, hb, h2⟩ := f8 (done_old q (by decide)); ⟨B, e, hb, fun q2 => (h2 (by rw [getD_set_ne false (by decide)] at q2; exact q2)).gr gg⟩), fun q => f9 (done_old q (by decide)), fun q => (let h := f10 (done_old q (by decide)); ⟨h.1, getD_set_true h.2⟩), fun q => absurd ((f11 (done_old q (by decide))).1 0 (by decide)) hn⟩
  · rintro done a w hsz hnot hdep ⟨t150, t151, t152, t153, t154, t155, t156, t157, t158, t159, t160, rfl, gw, f0, f1, f2, f3, f4, f5, f6, f7, f8, f9, f10, f11⟩ K hK
    have hn : ¬ done.getD 1 false = true := by rw [getD_both hnot]; decide
    have d0 := hdep 0 (by kernel_rfl)
    obtain rfl := f0 d0
    have n11 : done.getD 11 false = false := by
      cases e : done.getD 11 false with
      | false => rfl
      | true => exact absurd ((f11 e).1 1 (by decide)) hn
    replace gw := gw n11
    clear n11
    have c0 : w.cell? ⟨B3, 0, none⟩ = some (.slice (some ⟨B2, 0, none⟩) 3 3) := cell_gr gw C3.down
    have HK := PLift.up hK
    clear hK d0
    simp only [lz35A]
    go_simp
    have gg : Gr w w := Gr.refl _
    refine HK.down _ _ ⟨_, _, _, _, _, _, _, _, _, _, _, rfl, fun _ => gw, fun q => f0 (done_old q (by decide)), fun _ => rfl, fun q => f2 (done_old q (by decide)), fun q => f3 (done_old q (by decide)), fun q => f4 (done_old q (by decide)), fun q => f5 (done_old q (by decide)), fun q => f6 (done_old q (by decide)), fun q => f7 (done_old q (by decide)), fun q => (let ⟨B, e, hb, h2⟩ := f8 (done_old q (by decide)); ⟨B, e, hb, fun q2 => (h2 (by rw [getD_set_ne false (by decide)] at q2; exact q2)).gr gg⟩), fun q => f9 (done_old q (by decide)), fun q => (let h := f10 (done_old q (by decide)); ⟨h.1, getD_set_true h.2⟩), fun q => absurd ((f11 (done_old q (by decide))).1 1 (by decide)) hn⟩
  · rintro done a w hsz hnot hdep ⟨t150, t151, t152, t153, t154, t155, t156, t157, t158, t159, t160, rfl, gw, f0, f1, f2, f3, f4, f5, f6, f7, f8, f9, f10, f11⟩ K hK
    have hn : ¬ done.getD 2 false = true := by rw [getD_both hnot]; decide
    have n11 : done.getD 11 false = false := by
      cases e : done.getD 11 false with
      | false => rfl
      | true => exact absurd ((f11 e).1 2 (by decide)) hn
    replace gw := gw n11
    clear n11
    have HK := PLift.up hK
    clear hK 
    simp only [lz35A]
    go_simp
    have gg : Gr w w := Gr.refl _
    refine HK.down _ _ ⟨_, _, _, _, _, _, _, _, _, _, _, rfl, fun _ => gw, fun q => f0 (done_old q (by decide)), fun q => f1 (done_old q (by decide)), fun _ => rfl, fun q => f3 (done_old q (by decide)), fun q => f4 (done_old q (by decide)), fun q => f5 (done_old q (by decide)), fun q => f6 (done_old q (by decide)), fun q => f7 (done_old q (by decide)), fun q => (let ⟨B, e, hb, h2⟩ := f8 (done_old q (by decide)); ⟨B, e, hb, fun q2 => (h2 (by rw [getD_set_ne false (by decide)] at q2; exact q2)).gr gg⟩), fun q => f9 (done_old q (by decide)), fun q => (let h := f10 (done_old q (by decide)); ⟨h.1, getD_set_true h.2⟩), fun q => absurd ((f11 (done_old q (by decide))).1 2 (by decide)) hn⟩
  · rintro done a w hsz hnot hdep ⟨t150, t151, t152, t153, t154, t155, t156, t157, t158, t159, t160, rfl, gw, f0, f1, f2, f3, f4, f5, f6, f7, f8, f9, f10, f11⟩ K hK
    have hn : ¬ done.getD 3 false = true := by rw [getD_both hnot]; decide
    have n11 : done.getD 11 false = false := by
      cases e : done.getD 11 false with
      | false => rfl
      | true => exact absurd ((f11 e).1 3 (by decide)) hn
    replace gw := gw n11
    clear n11
    have HK := PLift.up hK
    clear hK 
    simp only [lz35A]
    go_simp
    have gg : Gr w w := Gr.refl _
    refine HK.down _ _ ⟨_, _, _, _, _, _, _, _, _, _, _, rfl, fun _ => gw, fun q => f0 (done_old q (by decide)), fun q => f1 (done_old q (by decide)), fun q => f2 (done_old q (by decide)), fun _ => rfl, fun q => f4 (done_old q (by decide)), fun q => f5 (done_old q (by decide)), fun q => f6 (done_old q (by decide)), fun q => f7 (done_old q (by decide)), fun q => (let ⟨B, e, hb, h2⟩ := f8 (done_old q (by decide)); ⟨B, e, hb, fun q2 => (h2 (by rw [getD_set_ne false (by decide)] at q2; exact q2)).gr gg⟩), fun q => f9 (done_old q (by decide)), fun q => (let h := f10 (done_old q (by decide)); ⟨h.1, getD_set_true h.2⟩), fun q => absurd ((f11 (done_old q (by decide))).1 3 (by decide)) hn⟩
  · rintro done a w hsz hnot hdep ⟨t150, t151, t152, t153, t154, t155, t156, t157, t158, t159, t160, rfl, gw, f0, f1, f2, f3, f4, f5, f6, f7, f8, f9, f10, f11⟩ K hK
    have hn : ¬ done.getD 4 false = true := by rw [getD_both hnot]; decide
    have d3 := hdep 3 (by kernel_rfl)
    obtain rfl := f3 d3
    have n11 : done.getD 11 false = false := by
      cases e : done.getD 11 false with
      | false => rfl
      | true => exact absurd ((f11 e).1 4 (by decide)) hn
    replace gw := gw n11
    clear n11
    have k1 := VL.down.2
    have HK := PLift.up hK
    clear hK d3
    simp only [lz35A]
    go_simp
    have gg : Gr w w := Gr.refl _
    refine HK.down _ _ ⟨_, _, _, _, _, _, _, _, _, _, _, rfl, fun _ => gw, fun q => f0 (done_old q (by decide)), fun q => f1 (done_old q (by decide)), fun q => f2 (done_old q (by decide)), fun q => f3 (done_old q (by decide)), fun _ => rfl, fun q => f5 (done_old q (by decide)), fun q => f6 (done_old q (by decide)), fun q => f7 (done_old q (by decide)), fun q => (let ⟨B, e, hb, h2⟩ := f8 (done_old q (by decide)); ⟨B, e, hb, fun q2 => (h2 (by rw [getD_set_ne false (by decide)] at q2; exact q2)).gr gg⟩), fun q => f9 (done_old q (by decide)), fun q => (let h := f10 (done_old q (by decide)); ⟨h.1, getD_set_true h.2⟩), fun q => absurd ((f11 (done_old q (by decide))).1 4 (by decide)) hn⟩
  · rintro done a w hsz hnot hdep ⟨t150, t151, t152, t153, t154, t155, t156, t157, t158, t159, t160, rfl, gw, f0, f1, f2, f3, f4, f5, f6, f7, f8, f9, f10, f11⟩ K hK
    have hn : ¬ done.getD 5 false = true := by rw [getD_both hnot]; decide
    have d4 := hdep 4 (by kernel_rfl)
    obtain rfl := f4 d4
    have n11 : done.getD 11 false = false := by
      cases e : done.getD 11 false with
      | false => rfl
      | true => exact absurd ((f11 e).1 5 (by decide)) hn
    replace gw := gw n11
    clear n11
    have k1 := VL.down.1
    have k2 := VL.down.2
    have sw : IntKind.i64.wrap ((V.length : Int) - 4) = (V.length : Int) - 4 := by rw [IntKind.wrap_i64]; omega
    have HK := PLift.up hK
    clear hK d4
    simp only [lz35A]
    go_simp
    have gg : Gr w w := Gr.refl _
    refine HK.down _ _ ⟨_, _, _, _, _, _, _, _, _, _, _, rfl, fun _ => gw, fun q => f0 (done_old q (by decide)), fun q => f1 (done_old q (by decide)), fun q => f2 (done_old q (by decide)), fun q => f3 (done_old q (by decide)), fun q => f4 (done_old q (by decide)), fun _ => rfl, fun q => f6 (done_old q (by decide)), fun q => f7 (done_old q (by decide)), fun q => (let ⟨B, e, hb, h2⟩ := f8 (done_old q (by decide)); ⟨B, e, hb, fun q2 => (h2 (by rw [getD_set_ne false (by decide)] at q2; exact q2)).gr gg⟩), fun q => f9 (done_old q (by decide)), fun q => (let h := f10 (done_old q (by decide)); ⟨h.1, getD_set_true h.2⟩), fun q => absurd ((f11 (done_old q (by decide))).1 5 (by decide)) hn⟩
  · rintro done a w hsz hnot hdep ⟨t150, t151, t152, t153, t154, t155, t156, t157, t158, t159, t160, rfl, gw, f0, f1, f2, f3, f4, f5, f6, f7, f8, f9, f10, f11⟩ K hK
    have hn : ¬ done.getD 6 false = true := by rw [getD_both hnot]; decide
    have d2 := hdep 2 (by kernel_rfl)
    have d5 := hdep 5 (by kernel_rfl)
    obtain rfl := f2 d2
    obtain rfl := f5 d5
    have n11 : done.getD 11 false = false := by
      cases e : done.getD 11 false with
      | false => rfl
      | true => exact absurd ((f11 e).1 6 (by decide)) hn
    replace gw := gw n11
    clear n11
    have k1 := VL.down.1
    have k2 := VL.down.2
    have k3 : ((V.length : Int) - 4).toNat = V.length - 4 := by omega
    have k4 : (4 : Int) ≤ (V.length : Int) := by omega
    have k5 : (V.length : Int) - 4 ≤ (V.length : Int) := by omega
    have HK := PLift.up hK
    clear hK d2 d5
    simp only [lz35A]
    go_simp
    have gg : Gr w w := Gr.refl _
    refine HK.down _ _ ⟨_, _, _, _, _, _, _, _, _, _, _, rfl, fun _ => gw, fun q => f0 (done_old q (by decide)), fun q => f1 (done_old q (by decide)), fun q => f2 (done_old q (by decide)), fun q => f3 (done_old q (by decide)), fun q => f4 (done_old q (by decide)), fun q => f5 (done_old q (by decide)), fun _ => rfl, fun q => f7 (done_old q (by decide)), fun q => (let ⟨B, e, hb, h2⟩ := f8 (done_old q (by decide)); ⟨B, e, hb, fun q2 => (h2 (by rw [getD_set_ne false (by decide)] at q2; exact q2)).gr gg⟩), fun q => f9 (done_old q (by decide)), fun q => (let h := f10 (done_old q (by decide)); ⟨h.1, getD_set_true h.2⟩), fun q => absurd ((f11 (done_old q (by decide))).1 6 (by decide)) hn⟩
  · rintro done a w hsz hnot hdep ⟨t150, t151, t152, t153, t154, t155, t156, t157, t158, t159, t160, rfl, gw, f0, f1, f2, f3, f4, f5, f6, f7, f8, f9, f10, f11⟩ K hK
    have hn : ¬ done.getD 7 false = true := by rw [getD_both hnot]; decide
    have d6 := hdep 6 (by kernel_rfl)
    obtain rfl := f6 d6
    have n11 : done.getD 11 false = false := by
      cases e : done.getD 11 false with
      | false => rfl
      | true => exact absurd ((f11 e).1 7 (by decide)) hn
    replace gw := gw n11
    clear n11
    have HK := PLift.up hK
    clear hK d6
    simp only [lz35A]
    go_simp
    have gg : Gr w w := Gr.refl _
    refine HK.down _ _ ⟨_, _, _, _, _, _, _, _, _, _, _, rfl, fun _ => gw, fun q => f0 (done_old q (by decide)), fun q => f1 (done_old q (by decide)), fun q => f2 (done_old q (by decide)), fun q => f3 (done_old q (by decide)), fun q => f4 (done_old q (by decide)), fun q => f5 (done_old q (by decide)), fun q => f6 (done_old q (by decide)), fun _ => rfl, fun q => (let ⟨B, e, hb, h2⟩ := f8 (done_old q (by decide)); ⟨B, e, hb, fun q2 => (h2 (by rw [getD_set_ne false (by decide)] at q2; exact q2)).gr gg⟩), fun q => f9 (done_old q (by decide)), fun q => (let h := f10 (done_old q (by decide)); ⟨h.1, getD_set_true h.2⟩), fun q => absurd ((f11 (done_old q (by decide))).1 7 (by decide)) hn⟩
  · rintro done a w hsz hnot hdep ⟨t150, t151, t152, t153, t154, t155, t156, t157, t158, t159, t160, rfl, gw, f0, f1, f2, f3, f4, f5, f6, f7, f8, f9, f10, f11⟩ K hK
    have hn : ¬ done.getD 8 false = true := by rw [getD_both hnot]; decide
    have d7 := hdep 7 (by kernel_rfl)
    obtain rfl := f7 d7
    have n11 : done.getD 11 false = false := by
      cases e : done.getD 11 false with
      | false => rfl
      | true => exact absurd ((f11 e).1 8 (by decide)) hn
    replace gw := gw n11
    clear n11
    have N11 := PLift.up (show done.getD 11 false = false from by
      cases e : done.getD 11 false with
      | false => rfl
      | true => exact absurd ((f11 e).1 8 (by decide)) hn)
    have HK := PLift.up hK
    clear hK d7
    simp only [lz35A]
    go_simp
    have gg : Gr w (w.alloc (.cells #[.string (bs sC), .string (bs (V.take (V.length - 4)))] 29)) := (Gr.refl _).alloc _
    refine HK.down _ _ ⟨_, _, _, _, _, _, _, _, _, _, _, rfl, fun _ => gw.trans gg, fun q => f0 (done_old q (by decide)), fun q => f1 (done_old q (by decide)), fun q => f2 (done_old q (by decide)), fun q => f3 (done_old q (by decide)), fun q => f4 (done_old q (by decide)), fun q => f5 (done_old q (by decide)), fun q => f6 (done_old q (by decide)), fun q => f7 (done_old q (by decide)), ?_, fun q => f9 (done_old q (by decide)), fun q => (let h := f10 (done_old q (by decide)); ⟨h.1, getD_set_true h.2⟩), fun q => absurd ((f11 (done_old q (by decide))).1 8 (by decide)) hn⟩
    exact fun _ => ⟨_, rfl, gr_le gw, fun _ => Row.new w _ _⟩
  · rintro done a w hsz hnot hdep ⟨t150, t151, t152, t153, t154, t155, t156, t157, t158, t159, t160, rfl, gw, f0, f1, f2, f3, f4, f5, f6, f7, f8, f9, f10, f11⟩ K hK
    have hn : ¬ done.getD 9 false = true := by rw [getD_both hnot]; decide
    have d1 := hdep 1 (by kernel_rfl)
    obtain rfl := f1 d1
    have n11 : done.getD 11 false = false := by
      cases e : done.getD 11 false with
      | false => rfl
      | true => exact absurd ((f11 e).1 9 (by decide)) hn
    replace gw := gw n11
    clear n11
    have HK := PLift.up hK
    clear hK d1
    simp only [lz35A]
    go_simp
    have gg : Gr w w := Gr.refl _
    refine HK.down _ _ ⟨_, _, _, _, _, _, _, _, _, _, _, rfl, fun _ => gw, fun q => f0 (done_old q (by decide)), fun q => f1 (done_old q (by decide)), fun q => f2 (done_old q (by decide)), fun q => f3 (done_old q (by decide)), fun q => f4 (done_old q (by decide)), fun q => f5 (done_old q (by decide)), fun q => f6 (done_old q (by decide)), fun q => f7 (done_old q (by decide)), fun q => (let ⟨B, e, hb, h2⟩ := f8 (done_old q (by decide)); ⟨B, e, hb, fun q2 => (h2 (by rw [getD_set_ne false (by decide)] at q2; exact q2)).gr gg⟩), fun _ => rfl, fun q => absurd (f10 (done_old q (by decide))).2 hn, fun q => absurd ((f11 (done_old q (by decide))).1 9 (by decide)) hn⟩
  · rintro done a w hsz hnot hdep ⟨t150, t151, t152, t153, t154, t155, t156, t157, t158, t159, t160, rfl, gw, f0, f1, f2, f3, f4, f5, f6, f7, f8, f9, f10, f11⟩ K hK
    have hn : ¬ done.getD 10 false = true := by rw [getD_both hnot]; decide
    have d9 := hdep 9 (by kernel_rfl)
    obtain rfl := f9 d9
    have n11 : done.getD 11 false = false := by
      cases e : done.getD 11 false with
      | false => rfl
      | true => exact absurd ((f11 e).1 10 (by decide)) hn
    replace gw := gw n11
    clear n11
    have D9 := PLift.up d9
    have HK := PLift.up hK
    clear hK d9
    simp only [lz35A]
    go_simp
    have gg : Gr w w := Gr.refl _
    refine HK.down _ _ ⟨_, _, _, _, _, _, _, _, _, _, _, rfl, fun _ => gw, fun q => f0 (done_old q (by decide)), fun q => f1 (done_old q (by decide)), fun q => f2 (done_old q (by decide)), fun q => f3 (done_old q (by decide)), fun q => f4 (done_old q (by decide)), fun q => f5 (done_old q (by decide)), fun q => f6 (done_old q (by decide)), fun q => f7 (done_old q (by decide)), fun q => (let ⟨B, e, hb, h2⟩ := f8 (done_old q (by decide)); ⟨B, e, hb, fun q2 => (h2 (by rw [getD_set_ne false (by decide)] at q2; exact q2)).gr gg⟩), fun q => f9 (done_old q (by decide)), ?_, fun q => absurd ((f11 (done_old q (by decide))).1 10 (by decide)) hn⟩
    exact fun _ => ⟨rfl, getD_set_true D9.down⟩
  · rintro done a w hsz hnot hdep ⟨t150, t151, t152, t153, t154, t155, t156, t157, t158, t159, t160, rfl, gw, f0, f1, f2, f3, f4, f5, f6, f7, f8, f9, f10, f11⟩ K hK
    have hn : ¬ done.getD 11 false = true := by rw [getD_both hnot]; decide
    have d0 := hdep 0 (by kernel_rfl)
    have d1 := hdep 1 (by kernel_rfl)
    have d2 := hdep 2 (by kernel_rfl)
    have d3 := hdep 3 (by kernel_rfl)
    have d4 := hdep 4 (by kernel_rfl)
    have d5 := hdep 5 (by kernel_rfl)
    have d6 := hdep 6 (by kernel_rfl)
    have d7 := hdep 7 (by kernel_rfl)
    have d8 := hdep 8 (by kernel_rfl)
    have d10 := hdep 10 (by kernel_rfl)
    obtain rfl := f0 d0
    obtain rfl := f1 d1
    obtain rfl := f2 d2
    obtain rfl := f3 d3
    obtain rfl := f4 d4
    obtain rfl := f5 d5
    obtain rfl := f6 d6
    obtain rfl := f7 d7
    have n11 := getD_both hnot
    have g1 := gw n11
    obtain ⟨B, rfl, hb, r0⟩ := f8 d8
    obtain ⟨rfl, d9⟩ := f10 d10
    obtain rfl := f9 d9
    have r1 := r0 n11
    have c9 : w.cell? ⟨B2, 5, none⟩ = _ := cell_gr g1 C5.down
    have cf : w.frozen? ⟨B2, 5, none⟩ = false := (RN.down.gr g1).free 5
    have ch := has_of_cell c9
    have FN := PLift.up (show FinZ wr B2 (V.take (V.length - 4)) (w.setCell ⟨B2, 5, none⟩ (.slice (some ⟨B, 0, none⟩) 1 1)) from ⟨B, w, rfl, g1, r1, hb⟩)
    have DD := PLift.up (show ∀ j, j < 11 → done.getD j false = true from by intro j hj; match j, hj with | 0, _ => exact d0 | 1, _ => exact d1 | 2, _ => exact d2 | 3, _ => exact d3 | 4, _ => exact d4 | 5, _ => exact d5 | 6, _ => exact d6 | 7, _ => exact d7 | 8, _ => exact d8 | 9, _ => exact d9 | 10, _ => exact d10)
    have HK := PLift.up hK
    have HB := PLift.up hb
    clear hK g1 n11 r0 r1 hb
    simp only [lz35A]
    go_simp
    refine HK.down _ _ ⟨_, _, _, _, _, _, _, _, _, _, _, rfl, fun q => absurd q (by rw [getD_set_same (by rw [hsz]; decide)]; decide), fun q => f0 (done_old q (by decide)), fun q => f1 (done_old q (by decide)), fun q => f2 (done_old q (by decide)), fun q => f3 (done_old q (by decide)), fun q => f4 (done_old q (by decide)), fun q => f5 (done_old q (by decide)), fun q => f6 (done_old q (by decide)), fun q => f7 (done_old q (by decide)), fun q => ⟨B, rfl, HB.down, fun q2 => absurd q2 (by rw [getD_set_same (by rw [hsz]; decide)]; decide)⟩, fun q => f9 (done_old q (by decide)), fun q => ⟨rfl, getD_set_true (DD.down 9 (by decide))⟩, ?_⟩
    exact fun _ => ⟨fun j hj => getD_set_true (DD.down j hj), FN.down⟩
  · rintro done a w hall ⟨t150, t151, t152, t153, t154, t155, t156, t157, t158, t159, t160, rfl, gw, f0, f1, f2, f3, f4, f5, f6, f7, f8, f9, f10, f11⟩
    exact h' _ _ _ _ _ _ _ _ _ _ _ w (f11 (hall 11 (by decide))).2
end Go.Proofs.Ytdjhnfopdlgliaa
