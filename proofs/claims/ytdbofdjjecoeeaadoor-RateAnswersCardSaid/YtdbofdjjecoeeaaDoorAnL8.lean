/- A piece of the walk of RateAnswers (printed by wip/tools/ans2.py). -/
import Derived.Test.YtdbofdjjecoeeaaDoorAnH
set_option linter.unusedVariables false
set_option linter.unusedSimpArgs false
namespace Go.Proofs.YtdbofdjjecoeeaaDoor
open Go.RowKit
set_option maxRecDepth 100000 in
set_option maxHeartbeats 16000000 in
theorem ans_l8 {Q : Exit → Act → World → Prop} {s0 s1 s2 s3 s4 s5 s6 s7 s8 s9 s10 s11 s12 s13 s14 s15 s16 s17 s18 s19 s20 s21 s22 s23 s24 s25 s26 s27 s28 s29 s30 s31 s32 s33 s34 s35 s36 s37 s38 s39 s40 s41 s42 s43 s44 s45 s46 s47 s48 s49 s50 s51 s52 s53 s54 s55 s56 s57 s58 s59 s60 s61 s62 s63 s64 s65 s66 s67 s68 s69 s70 s71 s72 s73 s74 s75 s76 s77 s78 s79 s80 s81 s82 s83 s84 s85 s86 s87 s88 s89 s90 s91 s92 s93 s94 s95 s96 s97 s98 s99 s100 s101 s102 s103 s104 s105 s106 s107 s108 s109 s110 s111 s112 s113 s114 s115 s116 s117 s118 s119 s120 s121 s122 s123 s124 s125 s126 s127 s128 s129 s130 s131 s132 s133 s134 s135 s136 s137 s138 s139 s140 s141 s142 s143 s144 s145 s146 s147 s148 s149 s150 s151 s152 s153 s154 s155 s156 s157 s158 s159 s160 s161 s162 s163 s164 s165 s166 s167 s168 s169 s170 s171 s172 s173 s174 s175 s176 s177 s178 s179 s180 s181 s182 s183 s184 s185 s186 s187 s188 s189 s190 s191 s192 s193 s194 s195 s196 s197 s198 s199 s200 s201 s202 s203 s204 s205 s206 s207 s208 s209 s210 s211 s212 s213 s214 s215 s216 s217 s218 s219 s220 s221 s222 s223 s224 s225 s226 s227 s228 s229 s230 s231 s232 s233 s234 s235 s236 s237 s238 s239 s243 s244 s245 s246 s247 s248 s249 s250 s251 s252 s253 s254 s255 s256 s257 s258 s259 s260 s261 s262 s263 s264 s265 s266 s267 s268 s269 s270 s271 : Value} {b nn bv : Nat} {nu de pa pb pc : Int} {V4 : World}
    (TV4 : Hid (Tp V4 b nn)) (KQ5 : Hid (∀ W', Mv b nn V4 W' → Row W' bv 43 [.int .i64 nu, .int .i64 de, .int .i64 pa, .int .i64 pb, .int .i64 144115188075855872, .int .i64 pc]))
    (nu0 : -9223372036854775808 ≤ nu) (nu1 : nu ≤ 9223372036854775807) (de0 : -9223372036854775808 ≤ de) (de1 : de ≤ 9223372036854775807) (pa0 : -1 ≤ pa) (pa1 : pa ≤ 1000) (pb0 : -1 ≤ pb) (pb1 : pb ≤ 1000) (pc0 : 1 ≤ pc) (pc1 : pc ≤ 9)
    (h : ∀ (t12 t38 t39 t40 t41 t42 t243 t244 t245 t246 t247 t248 t249 t250 t251 t252 t253 t254 t255 t256 t257 t258 t259 t260 t261 t262 t263 t264 t265 t266 t267 t268 t269 t270 : Value) (wx : World), Mv b nn V4 wx → Q (.exit 8) { tmps := #[s0, s1, s2, s3, s4, s5, s6, s7, s8, s9, s10, s11, t12, s13, s14, s15, s16, s17, s18, s19, s20, s21, s22, s23, s24, s25, s26, s27, s28, s29, s30, s31, s32, s33, s34, s35, s36, s37, t38, t39, t40, t41, t42, s43, s44, s45, s46, s47, s48, s49, s50, s51, s52, s53, s54, s55, s56, s57, s58, s59, s60, s61, s62, s63, s64, s65, s66, s67, s68, s69, s70, s71, s72, s73, s74, s75, s76, s77, s78, s79, s80, s81, s82, s83, s84, s85, s86, s87, s88, s89, s90, s91, s92, s93, s94, s95, s96, s97, s98, s99, s100, s101, s102, s103, s104, s105, s106, s107, s108, s109, s110, s111, s112, s113, s114, s115, s116, s117, s118, s119, s120, s121, s122, s123, s124, s125, s126, s127, s128, s129, s130, s131, s132, s133, s134, s135, s136, s137, s138, s139, s140, s141, s142, s143, s144, s145, s146, s147, s148, s149, s150, s151, s152, s153, s154, s155, s156, s157, s158, s159, s160, s161, s162, s163, s164, s165, s166, s167, s168, s169, s170, s171, s172, s173, s174, s175, s176, s177, s178, s179, s180, s181, s182, s183, s184, s185, s186, s187, s188, s189, s190, s191, s192, s193, s194, s195, s196, s197, s198, s199, s200, s201, s202, s203, s204, s205, s206, s207, s208, s209, s210, s211, s212, s213, s214, s215, s216, s217, s218, s219, s220, s221, s222, s223, s224, s225, s226, s227, s228, s229, s230, s231, s232, s233, s234, s235, s236, s237, s238, s239, Value.slice (some { block := bv, off := 0 }) 3 3, Value.int IntKind.i64 3, .int .i64 3, t243, t244, t245, t246, t247, t248, t249, t250, t251, t252, t253, t254, t255, t256, t257, t258, t259, t260, t261, t262, t263, t264, t265, t266, t267, t268, t269, t270, s271], defers := [] } wx) :
    (codeIn 8 Tryd.f5).wp Tryd.prog Q { tmps := #[s0, s1, s2, s3, s4, s5, s6, s7, s8, s9, s10, s11, s12, s13, s14, s15, s16, s17, s18, s19, s20, s21, s22, s23, s24, s25, s26, s27, s28, s29, s30, s31, s32, s33, s34, s35, s36, s37, s38, s39, s40, s41, s42, s43, s44, s45, s46, s47, s48, s49, s50, s51, s52, s53, s54, s55, s56, s57, s58, s59, s60, s61, s62, s63, s64, s65, s66, s67, s68, s69, s70, s71, s72, s73, s74, s75, s76, s77, s78, s79, s80, s81, s82, s83, s84, s85, s86, s87, s88, s89, s90, s91, s92, s93, s94, s95, s96, s97, s98, s99, s100, s101, s102, s103, s104, s105, s106, s107, s108, s109, s110, s111, s112, s113, s114, s115, s116, s117, s118, s119, s120, s121, s122, s123, s124, s125, s126, s127, s128, s129, s130, s131, s132, s133, s134, s135, s136, s137, s138, s139, s140, s141, s142, s143, s144, s145, s146, s147, s148, s149, s150, s151, s152, s153, s154, s155, s156, s157, s158, s159, s160, s161, s162, s163, s164, s165, s166, s167, s168, s169, s170, s171, s172, s173, s174, s175, s176, s177, s178, s179, s180, s181, s182, s183, s184, s185, s186, s187, s188, s189, s190, s191, s192, s193, s194, s195, s196, s197, s198, s199, s200, s201, s202, s203, s204, s205, s206, s207, s208, s209, s210, s211, s212, s213, s214, s215, s216, s217, s218, s219, s220, s221, s222, s223, s224, s225, s226, s227, s228, s229, s230, s231, s232, s233, s234, s235, s236, s237, s238, s239, Value.slice (some { block := bv, off := 0 }) 3 3, Value.int IntKind.i64 3, Value.int IntKind.i64 0, s243, s244, s245, s246, s247, s248, s249, s250, s251, s252, s253, s254, s255, s256, s257, s258, s259, s260, s261, s262, s263, s264, s265, s266, s267, s268, s269, s270, s271], defers := [] } V4 := by
  have HQ := PLift.up h
  clear h
  simp only [codeIn, Tryd.f5, codeOf, Option.bind_some, Option.getD_some, Nat.beq, cond_true, cond_false]
  go_loopw [242] (fun i wi => ∃ j5 : Nat, j5 ≤ 3 ∧ i = .int .i64 j5 ∧ Mv b nn V4 wi) (fun i _ => 3 - (intOf i).toNat)
  case atStart => exact ⟨0, Nat.zero_le _, rfl, Mv.refl TV4.out⟩
  case round =>
    obtain ⟨j5, hj5, rfl, hm⟩ := hrel
    obtain ⟨wi, rfl⟩ : ∃ wi : World, wi = wr := ⟨_, rfl⟩
    have M := Lib.hid hm
    clear hm
    by_cases hl5 : j5 < 3
    · have j6 : (j5 : Int) < 3 := by omega
      obtain ⟨lo, hi, x0, x1, lo0, lo1, hi0, hi1⟩ : ∃ lo hi : Int, wi.cell? ⟨bv, j5 * 2, none⟩ = some (.int .i64 lo) ∧ wi.cell? ⟨bv, j5 * 2 + 1, none⟩ = some (.int .i64 hi) ∧ -9223372036854775808 ≤ lo ∧ lo ≤ 9223372036854775807 ∧ -9223372036854775808 ≤ hi ∧ hi ≤ 9223372036854775807 := by
        have q := KQ5.out _ M.out
        obtain rfl | rfl | rfl : j5 = 0 ∨ j5 = 1 ∨ j5 = 2 := by omega
        · exact ⟨_, _, q.cell 0 (by simp), q.cell 1 (by simp), by omega, by omega, by omega, by omega⟩
        · exact ⟨_, _, q.cell 2 (by simp), q.cell 3 (by simp), by omega, by omega, by omega, by omega⟩
        · exact ⟨_, _, q.cell 4 (by simp), q.cell 5 (by simp), by omega, by omega, by omega, by omega⟩
      have xh := has_of_cell x0
      go_wp2_with fail
      clear x0 x1 xh
      refine (new_any lo hi _ (by omega) (by omega) (by omega) (by omega)).mono ?_
      rintro e w' ⟨rfl, O1, D1, rfl⟩
      go_wp2_with fail
      refine (ref_new_any lo hi _ (by omega) (by omega) (by omega) (by omega)).mono ?_
      rintro e w' ⟨rfl, O2, D2, rfl⟩
      go_wp2_with fail
      go_roundw
      case rel => exact ⟨j5 + 1, by omega, by go_num, M.out.gr (by repeat (first | with_reducible exact Gr.refl _ | with_reducible refine Gr.drew ?_ | with_reducible refine Gr.drewN _ ?_ | with_reducible refine Gr.xt _ _ ?_ | with_reducible refine Gr.alloc _ ?_))⟩
      case measure => simp [intOf]; omega
    · obtain rfl : j5 = 3 := by omega
      go_wp2_with fail
      exact HQ.down _ _ _ _ _ _ _ _ _ _ _ _ _ _ _ _ _ _ _ _ _ _ _ _ _ _ _ _ _ _ _ _ _ _ _ M.out
end Go.Proofs.YtdbofdjjecoeeaaDoor
