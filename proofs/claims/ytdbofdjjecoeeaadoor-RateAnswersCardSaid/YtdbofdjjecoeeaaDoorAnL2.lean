/- A piece of the walk of RateAnswers (printed by wip/tools/ans2.py). -/
import Derived.Test.YtdbofdjjecoeeaaDoorAnH
set_option linter.unusedVariables false
set_option linter.unusedSimpArgs false
namespace Go.Proofs.YtdbofdjjecoeeaaDoor
open Go.RowKit
set_option maxRecDepth 100000 in
set_option maxHeartbeats 16000000 in
theorem ans_l2 {Q : Exit → Act → World → Prop} {s0 s1 s2 s3 s4 s5 s6 s7 s8 s9 s10 s11 s12 s13 s14 s15 s16 s17 s19 s20 s21 s22 s23 s24 s25 s26 s27 s28 s29 s30 s31 s32 s33 s34 s35 s36 s37 s38 s39 s40 s41 s42 s43 s44 s45 s46 s47 s48 s49 s50 s51 s52 s53 s54 s55 s56 s57 s58 s59 s60 s61 s62 s63 s64 s65 s66 s67 s68 s69 s70 s71 s72 s73 s74 s75 s76 s77 s78 s79 s80 s81 s82 s83 s84 s85 s86 s87 s88 s89 s90 s91 s92 s93 s94 s95 s96 s97 s98 s99 s100 s101 s102 s103 s104 s105 s106 s107 s108 s109 s113 s114 s115 s116 s117 s118 s119 s120 s121 s122 s123 s124 s125 s126 s127 s128 s129 s130 s131 s132 s133 s134 s135 s136 s137 s138 s139 s140 s141 s142 s143 s144 s145 s146 s147 s148 s149 s150 s151 s152 s153 s154 s155 s156 s157 s158 s159 s160 s161 s162 s163 s164 s165 s166 s167 s168 s169 s170 s171 s172 s173 s174 s175 s176 s177 s178 s179 s180 s181 s182 s183 s184 s185 s186 s187 s188 s189 s190 s191 s192 s193 s194 s195 s196 s197 s198 s199 s200 s201 s202 s203 s204 s205 s206 s207 s208 s209 s210 s211 s212 s213 s214 s215 s216 s217 s218 s219 s220 s221 s222 s223 s224 s225 s226 s227 s228 s229 s230 s231 s232 s233 s234 s235 s236 s237 s238 s239 s240 s241 s242 s243 s244 s245 s246 s247 s248 s249 s250 s251 s252 s253 s254 s255 s256 s257 s258 s259 s260 s261 s262 s263 s264 s265 s266 s267 s268 s269 s270 s271 : Value} {b nn bk bx : Nat} {k z xn xd : Int} {W12 : World}
    (T12 : Hid (Tp W12 b nn)) (KX2 : Hid (∀ W', Mv b nn W12 W' → Row W' bx 27 [.int .i64 xn, .int .i64 xd])) (KY2 : Hid (∀ W', Mv b nn W12 W' → Row W' bk 3 [.int .i64 k, .int .i64 z])) (xn0 : -9223372036854775808 ≤ xn) (xn1 : xn ≤ 9223372036854775807) (xd0 : -9223372036854775808 ≤ xd) (xd1 : xd ≤ 9223372036854775807)
    (h : ∀ (t12 t20 t21 t22 t23 t24 t25 t26 t27 t28 t113 t114 t115 t116 t117 t118 t119 t120 t121 t122 t123 t124 t125 t126 t127 t128 t129 t130 t131 t132 t133 t134 t135 t136 t137 t138 t139 t140 t141 t142 t143 t144 t145 t146 t147 t148 t149 t150 t151 t152 t153 t154 t155 t156 t157 t158 : Value) (wx : World), Mv b nn W12 wx → Q (.exit 2) { tmps := #[s0, s1, s2, s3, s4, s5, s6, s7, s8, s9, s10, s11, t12, s13, s14, s15, s16, s17, Value.pointer (some { block := bx, off := 0 }), s19, t20, t21, t22, t23, t24, t25, t26, t27, t28, s29, s30, s31, s32, s33, s34, s35, s36, s37, s38, s39, s40, s41, s42, s43, s44, s45, s46, s47, s48, s49, s50, s51, s52, s53, s54, s55, s56, s57, s58, s59, s60, s61, s62, s63, s64, s65, s66, s67, s68, s69, s70, s71, s72, s73, s74, s75, s76, s77, s78, s79, s80, s81, s82, s83, s84, s85, s86, s87, s88, s89, s90, s91, s92, s93, s94, s95, s96, s97, s98, s99, s100, s101, s102, s103, s104, s105, s106, s107, s108, s109, Value.slice (some { block := bk, off := 0 }) 2 2, Value.int IntKind.i64 2, .int .i64 2, t113, t114, t115, t116, t117, t118, t119, t120, t121, t122, t123, t124, t125, t126, t127, t128, t129, t130, t131, t132, t133, t134, t135, t136, t137, t138, t139, t140, t141, t142, t143, t144, t145, t146, t147, t148, t149, t150, t151, t152, t153, t154, t155, t156, t157, t158, s159, s160, s161, s162, s163, s164, s165, s166, s167, s168, s169, s170, s171, s172, s173, s174, s175, s176, s177, s178, s179, s180, s181, s182, s183, s184, s185, s186, s187, s188, s189, s190, s191, s192, s193, s194, s195, s196, s197, s198, s199, s200, s201, s202, s203, s204, s205, s206, s207, s208, s209, s210, s211, s212, s213, s214, s215, s216, s217, s218, s219, s220, s221, s222, s223, s224, s225, s226, s227, s228, s229, s230, s231, s232, s233, s234, s235, s236, s237, s238, s239, s240, s241, s242, s243, s244, s245, s246, s247, s248, s249, s250, s251, s252, s253, s254, s255, s256, s257, s258, s259, s260, s261, s262, s263, s264, s265, s266, s267, s268, s269, s270, s271], defers := [] } wx) :
    (codeIn 2 Tryd.f5).wp Tryd.prog Q { tmps := #[s0, s1, s2, s3, s4, s5, s6, s7, s8, s9, s10, s11, s12, s13, s14, s15, s16, s17, Value.pointer (some { block := bx, off := 0 }), s19, s20, s21, s22, s23, s24, s25, s26, s27, s28, s29, s30, s31, s32, s33, s34, s35, s36, s37, s38, s39, s40, s41, s42, s43, s44, s45, s46, s47, s48, s49, s50, s51, s52, s53, s54, s55, s56, s57, s58, s59, s60, s61, s62, s63, s64, s65, s66, s67, s68, s69, s70, s71, s72, s73, s74, s75, s76, s77, s78, s79, s80, s81, s82, s83, s84, s85, s86, s87, s88, s89, s90, s91, s92, s93, s94, s95, s96, s97, s98, s99, s100, s101, s102, s103, s104, s105, s106, s107, s108, s109, Value.slice (some { block := bk, off := 0 }) 2 2, Value.int IntKind.i64 2, Value.int IntKind.i64 0, s113, s114, s115, s116, s117, s118, s119, s120, s121, s122, s123, s124, s125, s126, s127, s128, s129, s130, s131, s132, s133, s134, s135, s136, s137, s138, s139, s140, s141, s142, s143, s144, s145, s146, s147, s148, s149, s150, s151, s152, s153, s154, s155, s156, s157, s158, s159, s160, s161, s162, s163, s164, s165, s166, s167, s168, s169, s170, s171, s172, s173, s174, s175, s176, s177, s178, s179, s180, s181, s182, s183, s184, s185, s186, s187, s188, s189, s190, s191, s192, s193, s194, s195, s196, s197, s198, s199, s200, s201, s202, s203, s204, s205, s206, s207, s208, s209, s210, s211, s212, s213, s214, s215, s216, s217, s218, s219, s220, s221, s222, s223, s224, s225, s226, s227, s228, s229, s230, s231, s232, s233, s234, s235, s236, s237, s238, s239, s240, s241, s242, s243, s244, s245, s246, s247, s248, s249, s250, s251, s252, s253, s254, s255, s256, s257, s258, s259, s260, s261, s262, s263, s264, s265, s266, s267, s268, s269, s270, s271], defers := [] } W12 := by
  have HQ := PLift.up h
  clear h
  simp only [codeIn, Tryd.f5, codeOf, Option.bind_some, Option.getD_some, Nat.beq, cond_true, cond_false]
  go_loopw [112] (fun i wi => ∃ j2 : Nat, j2 ≤ 2 ∧ i = .int .i64 j2 ∧ Mv b nn W12 wi) (fun i _ => 2 - (intOf i).toNat)
  case atStart => exact ⟨0, Nat.zero_le _, rfl, Mv.refl T12.out⟩
  case round =>
    obtain ⟨j2, hj2, rfl, hm⟩ := hrel
    obtain ⟨wi, rfl⟩ : ∃ wi : World, wi = wr := ⟨_, rfl⟩
    have M := Lib.hid hm
    clear hm
    by_cases hl2 : j2 < 2
    · have j3 : (j2 : Int) < 2 := by omega
      obtain ⟨n, hn⟩ : ∃ n : Int, wi.cell? ⟨bk, j2, none⟩ = some (.int .i64 n) := by
        have q := KY2.out _ M.out
        obtain rfl | rfl : j2 = 0 ∨ j2 = 1 := by omega
        · exact ⟨_, q.cell 0 (by simp)⟩
        · exact ⟨_, q.cell 1 (by simp)⟩
      have hn' := has_of_cell hn
      have u0 := (KX2.out _ M.out).cell 0 (by simp)
      have u1 := (KX2.out _ M.out).cell 1 (by simp)
      have v0 := (KX2.out _ M.out).has
      simp only [List.getElem_cons_zero, List.getElem_cons_succ] at u0 u1
      go_wp2_with fail
      clear hn hn'
      refine (times_any xn xd n _ (by omega) (by omega) (by omega) (by omega)).mono ?_
      rintro e w' ⟨rfl, O1, D1, rfl⟩
      go_wp2_with fail
      refine (refTimes_any xn xd n _ (by omega) (by omega) (by omega) (by omega)).mono ?_
      rintro e w' ⟨rfl, O2, D2, rfl⟩
      go_wp2_with fail
      refine (over_any xn xd n _ (by omega) (by omega) (by omega) (by omega)).mono ?_
      rintro e w' ⟨rfl, O3, D3, rfl⟩
      go_wp2_with fail
      refine (refOver_any xn xd n _ (by omega) (by omega) (by omega) (by omega)).mono ?_
      rintro e w' ⟨rfl, O4, D4, rfl⟩
      go_wp2_with fail
      go_roundw
      case rel => exact ⟨j2 + 1, by omega, by go_num, M.out.gr (by repeat (first | with_reducible exact Gr.refl _ | with_reducible refine Gr.drew ?_ | with_reducible refine Gr.drewN _ ?_ | with_reducible refine Gr.xt _ _ ?_ | with_reducible refine Gr.alloc _ ?_))⟩
      case measure => simp [intOf]; omega
    · obtain rfl : j2 = 2 := by omega
      go_wp2_with fail
      exact HQ.down _ _ _ _ _ _ _ _ _ _ _ _ _ _ _ _ _ _ _ _ _ _ _ _ _ _ _ _ _ _ _ _ _ _ _ _ _ _ _ _ _ _ _ _ _ _ _ _ _ _ _ _ _ _ _ _ _ M.out
end Go.Proofs.YtdbofdjjecoeeaaDoor
