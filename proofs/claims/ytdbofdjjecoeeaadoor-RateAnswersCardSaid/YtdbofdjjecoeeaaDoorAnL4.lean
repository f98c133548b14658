/- A piece of the walk of RateAnswers (printed by wip/tools/ans2.py). -/
import Derived.Test.YtdbofdjjecoeeaaDoorAnH
set_option linter.unusedVariables false
set_option linter.unusedSimpArgs false
namespace Go.Proofs.YtdbofdjjecoeeaaDoor
open Go.RowKit
set_option maxRecDepth 100000 in
set_option maxHeartbeats 16000000 in
theorem ans_l4 {Q : Exit → Act → World → Prop} {s0 s1 s2 s3 s4 s5 s6 s7 s8 s9 s10 s11 s12 s13 s14 s15 s16 s17 s19 s20 s21 s22 s23 s24 s25 s26 s27 s28 s29 s30 s31 s32 s33 s34 s35 s36 s37 s38 s39 s40 s41 s42 s43 s44 s45 s46 s47 s48 s49 s50 s51 s52 s53 s54 s55 s56 s57 s58 s59 s60 s61 s62 s63 s64 s65 s66 s67 s68 s69 s70 s71 s72 s73 s74 s75 s76 s77 s78 s79 s80 s81 s82 s83 s84 s85 s86 s87 s88 s89 s90 s91 s92 s93 s94 s95 s96 s97 s98 s99 s100 s101 s102 s103 s104 s105 s106 s107 s108 s109 s110 s111 s112 s113 s114 s115 s116 s117 s118 s119 s120 s121 s122 s123 s124 s125 s126 s127 s128 s129 s130 s131 s132 s133 s134 s135 s136 s137 s138 s139 s140 s141 s142 s143 s144 s145 s146 s147 s148 s149 s150 s151 s152 s153 s154 s155 s156 s157 s158 s159 s160 s161 s162 s163 s164 s165 s166 s167 s168 s169 s170 s171 s172 s176 s177 s178 s179 s180 s181 s182 s183 s184 s185 s186 s187 s188 s189 s190 s191 s192 s193 s194 s195 s196 s197 s198 s199 s200 s201 s202 s203 s204 s205 s206 s207 s208 s209 s210 s211 s212 s213 s214 s215 s216 s217 s218 s219 s220 s221 s222 s223 s224 s225 s226 s227 s228 s229 s230 s231 s232 s233 s234 s235 s236 s237 s238 s239 s240 s241 s242 s243 s244 s245 s246 s247 s248 s249 s250 s251 s252 s253 s254 s255 s256 s257 s258 s259 s260 s261 s262 s263 s264 s265 s266 s267 s268 s269 s270 s271 : Value} {b nn bq bx T : Nat} {nu de e1 e2 e3 xn xd : Int} {WQ : World}
    (TWQ : Hid (Tp WQ b nn)) (KX3 : Hid (∀ W', Mv b nn WQ W' → Row W' bx 27 [.int .i64 xn, .int .i64 xd])) (KQ3 : Hid (∀ W', Mv b nn WQ W' → Row W' bq T [.int .i64 nu, .int .i64 de, .int .i64 e1, .int .i64 e2, .int .i64 0, .int .i64 e3])) (xn0 : -9223372036854775808 ≤ xn) (xn1 : xn ≤ 9223372036854775807) (xd0 : -9223372036854775808 ≤ xd) (xd1 : xd ≤ 9223372036854775807)
    (h : ∀ (t12 t30 t176 t177 t178 t179 t180 t181 t182 t183 t184 t185 t186 t187 t188 t189 t190 t191 t192 : Value) (wx : World), Mv b nn WQ wx → Q (.exit 4) { tmps := #[s0, s1, s2, s3, s4, s5, s6, s7, s8, s9, s10, s11, t12, s13, s14, s15, s16, s17, Value.pointer (some { block := bx, off := 0 }), s19, s20, s21, s22, s23, s24, s25, s26, s27, s28, s29, t30, s31, s32, s33, s34, s35, s36, s37, s38, s39, s40, s41, s42, s43, s44, s45, s46, s47, s48, s49, s50, s51, s52, s53, s54, s55, s56, s57, s58, s59, s60, s61, s62, s63, s64, s65, s66, s67, s68, s69, s70, s71, s72, s73, s74, s75, s76, s77, s78, s79, s80, s81, s82, s83, s84, s85, s86, s87, s88, s89, s90, s91, s92, s93, s94, s95, s96, s97, s98, s99, s100, s101, s102, s103, s104, s105, s106, s107, s108, s109, s110, s111, s112, s113, s114, s115, s116, s117, s118, s119, s120, s121, s122, s123, s124, s125, s126, s127, s128, s129, s130, s131, s132, s133, s134, s135, s136, s137, s138, s139, s140, s141, s142, s143, s144, s145, s146, s147, s148, s149, s150, s151, s152, s153, s154, s155, s156, s157, s158, s159, s160, s161, s162, s163, s164, s165, s166, s167, s168, s169, s170, s171, s172, Value.slice (some { block := bq, off := 0 }) 3 3, Value.int IntKind.i64 3, .int .i64 3, t176, t177, t178, t179, t180, t181, t182, t183, t184, t185, t186, t187, t188, t189, t190, t191, t192, s193, s194, s195, s196, s197, s198, s199, s200, s201, s202, s203, s204, s205, s206, s207, s208, s209, s210, s211, s212, s213, s214, s215, s216, s217, s218, s219, s220, s221, s222, s223, s224, s225, s226, s227, s228, s229, s230, s231, s232, s233, s234, s235, s236, s237, s238, s239, s240, s241, s242, s243, s244, s245, s246, s247, s248, s249, s250, s251, s252, s253, s254, s255, s256, s257, s258, s259, s260, s261, s262, s263, s264, s265, s266, s267, s268, s269, s270, s271], defers := [] } wx) :
    (codeIn 4 Tryd.f5).wp Tryd.prog Q { tmps := #[s0, s1, s2, s3, s4, s5, s6, s7, s8, s9, s10, s11, s12, s13, s14, s15, s16, s17, Value.pointer (some { block := bx, off := 0 }), s19, s20, s21, s22, s23, s24, s25, s26, s27, s28, s29, s30, s31, s32, s33, s34, s35, s36, s37, s38, s39, s40, s41, s42, s43, s44, s45, s46, s47, s48, s49, s50, s51, s52, s53, s54, s55, s56, s57, s58, s59, s60, s61, s62, s63, s64, s65, s66, s67, s68, s69, s70, s71, s72, s73, s74, s75, s76, s77, s78, s79, s80, s81, s82, s83, s84, s85, s86, s87, s88, s89, s90, s91, s92, s93, s94, s95, s96, s97, s98, s99, s100, s101, s102, s103, s104, s105, s106, s107, s108, s109, s110, s111, s112, s113, s114, s115, s116, s117, s118, s119, s120, s121, s122, s123, s124, s125, s126, s127, s128, s129, s130, s131, s132, s133, s134, s135, s136, s137, s138, s139, s140, s141, s142, s143, s144, s145, s146, s147, s148, s149, s150, s151, s152, s153, s154, s155, s156, s157, s158, s159, s160, s161, s162, s163, s164, s165, s166, s167, s168, s169, s170, s171, s172, Value.slice (some { block := bq, off := 0 }) 3 3, Value.int IntKind.i64 3, Value.int IntKind.i64 0, s176, s177, s178, s179, s180, s181, s182, s183, s184, s185, s186, s187, s188, s189, s190, s191, s192, s193, s194, s195, s196, s197, s198, s199, s200, s201, s202, s203, s204, s205, s206, s207, s208, s209, s210, s211, s212, s213, s214, s215, s216, s217, s218, s219, s220, s221, s222, s223, s224, s225, s226, s227, s228, s229, s230, s231, s232, s233, s234, s235, s236, s237, s238, s239, s240, s241, s242, s243, s244, s245, s246, s247, s248, s249, s250, s251, s252, s253, s254, s255, s256, s257, s258, s259, s260, s261, s262, s263, s264, s265, s266, s267, s268, s269, s270, s271], defers := [] } WQ := by
  have HQ := PLift.up h
  clear h
  simp only [codeIn, Tryd.f5, codeOf, Option.bind_some, Option.getD_some, Nat.beq, cond_true, cond_false]
  go_loopw [175] (fun i wi => ∃ j3 : Nat, j3 ≤ 3 ∧ i = .int .i64 j3 ∧ Mv b nn WQ wi) (fun i _ => 3 - (intOf i).toNat)
  case atStart => exact ⟨0, Nat.zero_le _, rfl, Mv.refl TWQ.out⟩
  case round =>
    obtain ⟨j3, hj3, rfl, hm⟩ := hrel
    obtain ⟨wi, rfl⟩ : ∃ wi : World, wi = wr := ⟨_, rfl⟩
    have M := Lib.hid hm
    clear hm
    by_cases hl3 : j3 < 3
    · have j4 : (j3 : Int) < 3 := by omega
      obtain ⟨lo, hi, x0, x1⟩ : ∃ lo hi : Int, wi.cell? ⟨bq, j3 * 2, none⟩ = some (.int .i64 lo) ∧ wi.cell? ⟨bq, j3 * 2 + 1, none⟩ = some (.int .i64 hi) := by
        have q := KQ3.out _ M.out
        obtain rfl | rfl | rfl : j3 = 0 ∨ j3 = 1 ∨ j3 = 2 := by omega
        · exact ⟨_, _, q.cell 0 (by simp), q.cell 1 (by simp)⟩
        · exact ⟨_, _, q.cell 2 (by simp), q.cell 3 (by simp)⟩
        · exact ⟨_, _, q.cell 4 (by simp), q.cell 5 (by simp)⟩
      have xh := has_of_cell x0
      go_wp2_with fail
      clear x0 x1 xh
      obtain ⟨W24, hW24⟩ : ∃ W24 : World, Hid (W24 = wi.alloc (.cells #[.int .i64 lo, .int .i64 hi] 43)) := ⟨_, Lib.hid rfl⟩
      rw [← hW24.out]
      obtain ⟨by24, hby24⟩ : ∃ by24 : Nat, Hid (wi.heap.size = by24) := ⟨_, Lib.hid rfl⟩
      rw [hby24.out]
      have Y24 : Hid (Row W24 by24 43 [.int .i64 lo, .int .i64 hi]) := Lib.hid (by rw [hW24.out, ← hby24.out]; exact Row.new wi _ _)
      have X24 : Hid (Row W24 bx 27 [.int .i64 xn, .int .i64 xd]) := Lib.hid (by rw [hW24.out]; exact Row.alloc _ (KX3.out _ M.out))
      have M24 : Hid (Mv b nn WQ W24) := Lib.hid (by rw [hW24.out]; exact M.out.alloc _)
      clear hW24 hby24 M
      have u0 := X24.out.cell 0 (by simp)
      have u1 := X24.out.cell 1 (by simp)
      have u2 := Y24.out.cell 0 (by simp)
      have u3 := Y24.out.cell 1 (by simp)
      have v0 := X24.out.has
      have v1 := Y24.out.has
      simp only [List.getElem_cons_zero, List.getElem_cons_succ] at u0 u1 u2 u3
      refine wp_region_grows (by kernel_rfl) (by kernel_rfl) ?_
      repeat (go_big_quiet_step (first | (go_at_call 25; exact calls_grows (within_any _ _ _ _ _ (by omega) (by omega) (by omega) (by omega))) | (go_at_call 26; exact calls_grows (refWithin_any _ _ _ _ _ (by omega) (by omega) (by omega) (by omega)))))
      refine wpQuiet_nil ?_
      rintro _ ⟨⟨O5, D5⟩, rfl⟩
      go_wp2_with fail
      go_roundw
      case rel => exact ⟨j3 + 1, by omega, by go_num, M24.out.gr (by repeat (first | with_reducible exact Gr.refl _ | with_reducible refine Gr.drew ?_ | with_reducible refine Gr.drewN _ ?_ | with_reducible refine Gr.xt _ _ ?_ | with_reducible refine Gr.alloc _ ?_))⟩
      case measure => simp [intOf]; omega
    · obtain rfl : j3 = 3 := by omega
      go_wp2_with fail
      exact HQ.down _ _ _ _ _ _ _ _ _ _ _ _ _ _ _ _ _ _ _ _ M.out
end Go.Proofs.YtdbofdjjecoeeaaDoor
