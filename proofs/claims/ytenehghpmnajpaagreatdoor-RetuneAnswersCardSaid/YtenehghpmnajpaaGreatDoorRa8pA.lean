/- Lemmas and contracts for the proof of RetuneAnswers (several texts in one, printed by wip/tools/pack.py): RaC RaD RaF RaW. -/
import Derived.Test.YtenehghpmnajpaaGreatDoorRa8pz
import Derived.Test.YtenehghpmnajpaaGreatDoorRa8pt
import Derived.Test.YtenehghpmnajpaaGreatDoorRa8pu
import Derived.Test.YtenehghpmnajpaaGreatDoorRa8pm
import Derived.Test.YtenehghpmnajpaaGreatDoorRa8pv
import Derived.Test.YtenehghpmnajpaaGreatDoorRa8px
set_option maxRecDepth 100000
set_option maxHeartbeats 16000000
set_option linter.unusedVariables false
set_option linter.unusedSimpArgs false
namespace Go.Proofs.YtenehghpmnajpaaGreatDoor
open Go.RowKit
open Classical
theorem clW_lens {l : List Clk} {ms : List Lmt} {f t s : List Int} (h : s ∈ clW l ms f t) : s.length ≤ 1000 := by
  obtain ⟨h1, h2⟩ := (clW_ok (l := l) (ms := ms) (f := f) (t := t)).2 s h
  have := small_len (cchk_zero h1).1
  rw [h2.1]; omega
theorem plW_len {l : List Clk} {ms : List Lmt} {f t : List Int} : (plW l ms f t).length ≤ 4096 := by
  by_cases h0 : e18 l ms f t = 0
  · obtain ⟨lo, fo, tO, fc, tc⟩ := e18_zero h0
    refine (plW_ok (l := l) (ms := ms) (f := f) (t := t) ?_).2
    refine Classical.byContradiction fun q => ?_
    unfold e18 at h0
    rw [if_neg q] at h0
    exact q h0
  · rw [(plE_err h0).2]; simp
theorem tailS_each (ps : List (Int × Int)) : ∀ s : List Int, ∀ x ∈ tailS s ps, x.length = s.length := by
  induction ps with
  | nil => intro s x hx; simp [tailS] at hx
  | cons p ps ih =>
    intro s x hx
    simp only [tailS, List.mem_cons] at hx
    rcases hx with rfl | hx
    · exact putS_len s p
    · rw [ih _ x hx, putS_len]
theorem pathS_each (s : List Int) (ps : List (Int × Int)) : ∀ x ∈ pathS s ps, x.length = s.length := by
  intro x hx
  simp only [pathS, List.mem_cons] at hx
  rcases hx with rfl | hx
  · rfl
  · exact tailS_each ps s x hx
theorem pair_at {W : World} {Y : Nat} {ty : TypeId} {u v : Value} (r : Row W Y ty [u, v]) : W.cell? ⟨Y, 0, none⟩ = some u ∧ W.cell? ⟨Y, 1, none⟩ = some v ∧ Has W Y := ⟨r.cell 0 (by simp), r.cell 1 (by simp), r.has⟩
theorem raC {Q : Exit → Act → World → Prop} {s0 s1 s2 s3 s4 s5 s7 s8 s9 s10 s11 s12 s13 s14 s16 s17 s18 s19 s20 s21 s22 s24 s26 s27 s28 s29 s30 s31 s32 s33 s34 s35 s36 s37 s38 s39 s40 s41 s42 s43 s44 s45 s46 s47 s48 s49 s50 s51 s52 s53 s54 s55 s56 s57 s58 s59 s60 s61 s62 s63 s64 s65 s66 s67 s68 s69 s70 s71 s72 s73 s74 s75 s76 s77 s78 s79 s80 s81 s82 s83 s84 s85 s86 s87 s88 s89 s90 s91 s92 s93 s94 s95 s96 s97 s98 s99 s100 s101 s102 s103 s104 s105 s106 s107 s108 s109 s110 s111 s112 s113 s114 s115 s116 s117 s118 s119 s120 s124 s125 s126 s127 s128 s129 s130 s131 s132 s133 s134 s135 s136 s137 s138 s139 s140 s141 s142 s143 s144 s145 s146 s147 s148 s149 s150 s151 s152 s153 s154 s155 s156 s157 s158 s159 s160 s161 s162 s163 s164 s165 s166 s167 s168 s169 s170 s171 s172 s173 s174 s175 s176 s177 s178 s179 s180 s181 s182 s183 s184 s185 s186 s187 s188 s189 s190 s191 s192 s193 s194 s195 s196 s197 s198 s199 s200 s201 s202 s203 s204 s205 s206 s207 s208 s209 s210 s211 s212 s213 s214 s215 s216 s217 s218 s219 s220 s221 s222 s223 s224 s225 s226 s227 s228 s229 s230 s231 s232 s233 s234 s235 s236 s237 s238 s239 s240 s241 s242 s243 s244 s245 s246 s247 s248 s249 s250 s251 s252 s253 s254 s255 s256 s257 s258 s259 s260 s261 s262 s263 s264 s265 s266 s267 s268 s269 s270 s271 s272 s273 s274 s275 s276 s277 s278 s279 s280 s281 s282 s283 s284 s285 s286 s287 s288 s289 s290 s291 s292 s293 s294 s295 s296 : Value} {b n : Nat} {l : List Clk} {ms : List Lmt} {cs : List (List Int)} {al am aC : Option Addr} {cl cm cC gy : Nat} {WA : World}
    (TP0 : Tp WA b n) (CL : ∀ W, Mv b n WA W → SlOf 5 RClk W al l) (fl : Fit l.length) (ML : ∀ W, Mv b n WA W → SlOf 3 RLmt W am ms) (fm : Fit ms.length) (OF : ∀ W, Mv b n WA W → OffV W) (SC : ∀ W, Mv b n WA W → SlOf 1 RSet W aC cs) (hcs : cs.length ≤ 1000000) (fcs : ∀ s ∈ cs, Fit s.length)
    (Y : ∀ W, Mv b n WA W → ∀ k, k < 3 → ∃ (af at' : Option Addr) (f t : List Int) (cf ct : Nat), W.cell? ⟨gy, k * 2, none⟩ = some (.slice af f.length cf) ∧ W.cell? ⟨gy, k * 2 + 1, none⟩ = some (.slice at' t.length ct) ∧ (∀ W', Mv b n WA W' → SlOf 1 RI W' af f ∧ SlOf 1 RI W' at' t) ∧ f.length ≤ 1000000 ∧ t.length ≤ 1000000)
    (h : ∀ (t14 t27 t28 t29 t30 t31 t32 t33 t34 t35 t37 t38 t39 t40 t41 t123 t124 t125 t126 t127 t128 t129 t130 t131 t132 t133 t134 t135 t136 t137 t138 t139 t140 t141 t142 t143 t144 t145 t146 t147 t148 t149 t150 t151 t152 t153 t154 t155 t156 t157 t158 t159 t160 t161 t162 t163 t164 t165 t166 t167 t168 t169 t170 t171 t172 t173 t174 t175 t176 t177 t178 t179 t180 t181 t182 t183 t184 t185 t186 t187 t188 t189 t190 t191 t192 t193 t194 t195 t196 t197 t198 t199 t200 t201 t202 t203 t204 t205 t206 t207 t208 t209 t210 t211 t212 t213 t214 t215 t216 t217 t218 t219 t220 t221 t222 t223 t224 t225 t226 t227 t228 t229 t230 t231 t232 t233 t234 t235 t236 t237 t238 t239 t240 t241 t242 t243 t244 t245 t246 t247 t248 t249 t250 t251 t252 t253 t254 : Value) (wx : World), Mv b n WA wx → Q (.exit 4) { tmps := #[s0, s1, s2, s3, s4, s5, .slice aC cs.length cC, s7, s8, s9, s10, s11, s12, s13, t14, .pointer (some ⟨b, 0, none⟩), s16, s17, s18, s19, s20, s21, s22, .slice al l.length cl, s24, .slice am ms.length cm, s26, t27, t28, t29, t30, t31, t32, t33, t34, t35, s36, t37, t38, t39, t40, t41, s42, s43, s44, s45, s46, s47, s48, s49, s50, s51, s52, s53, s54, s55, s56, s57, s58, s59, s60, s61, s62, s63, s64, s65, s66, s67, s68, s69, s70, s71, s72, s73, s74, s75, s76, s77, s78, s79, s80, s81, s82, s83, s84, s85, s86, s87, s88, s89, s90, s91, s92, s93, s94, s95, s96, s97, s98, s99, s100, s101, s102, s103, s104, s105, s106, s107, s108, s109, s110, s111, s112, s113, s114, s115, s116, s117, s118, s119, s120, .slice (some ⟨gy, 0, none⟩) 3 3, .int .i64 3, t123, t124, t125, t126, t127, t128, t129, t130, t131, t132, t133, t134, t135, t136, t137, t138, t139, t140, t141, t142, t143, t144, t145, t146, t147, t148, t149, t150, t151, t152, t153, t154, t155, t156, t157, t158, t159, t160, t161, t162, t163, t164, t165, t166, t167, t168, t169, t170, t171, t172, t173, t174, t175, t176, t177, t178, t179, t180, t181, t182, t183, t184, t185, t186, t187, t188, t189, t190, t191, t192, t193, t194, t195, t196, t197, t198, t199, t200, t201, t202, t203, t204, t205, t206, t207, t208, t209, t210, t211, t212, t213, t214, t215, t216, t217, t218, t219, t220, t221, t222, t223, t224, t225, t226, t227, t228, t229, t230, t231, t232, t233, t234, t235, t236, t237, t238, t239, t240, t241, t242, t243, t244, t245, t246, t247, t248, t249, t250, t251, t252, t253, t254, s255, s256, s257, s258, s259, s260, s261, s262, s263, s264, s265, s266, s267, s268, s269, s270, s271, s272, s273, s274, s275, s276, s277, s278, s279, s280, s281, s282, s283, s284, s285, s286, s287, s288, s289, s290, s291, s292, s293, s294, s295, s296], defers := [] } wx) :
    (codeIn 4 Tryz.f5).wp Tryz.prog Q { tmps := #[s0, s1, s2, s3, s4, s5, .slice aC cs.length cC, s7, s8, s9, s10, s11, s12, s13, s14, .pointer (some ⟨b, 0, none⟩), s16, s17, s18, s19, s20, s21, s22, .slice al l.length cl, s24, .slice am ms.length cm, s26, s27, s28, s29, s30, s31, s32, s33, s34, s35, s36, s37, s38, s39, s40, s41, s42, s43, s44, s45, s46, s47, s48, s49, s50, s51, s52, s53, s54, s55, s56, s57, s58, s59, s60, s61, s62, s63, s64, s65, s66, s67, s68, s69, s70, s71, s72, s73, s74, s75, s76, s77, s78, s79, s80, s81, s82, s83, s84, s85, s86, s87, s88, s89, s90, s91, s92, s93, s94, s95, s96, s97, s98, s99, s100, s101, s102, s103, s104, s105, s106, s107, s108, s109, s110, s111, s112, s113, s114, s115, s116, s117, s118, s119, s120, .slice (some ⟨gy, 0, none⟩) 3 3, .int .i64 3, .int .i64 0, s124, s125, s126, s127, s128, s129, s130, s131, s132, s133, s134, s135, s136, s137, s138, s139, s140, s141, s142, s143, s144, s145, s146, s147, s148, s149, s150, s151, s152, s153, s154, s155, s156, s157, s158, s159, s160, s161, s162, s163, s164, s165, s166, s167, s168, s169, s170, s171, s172, s173, s174, s175, s176, s177, s178, s179, s180, s181, s182, s183, s184, s185, s186, s187, s188, s189, s190, s191, s192, s193, s194, s195, s196, s197, s198, s199, s200, s201, s202, s203, s204, s205, s206, s207, s208, s209, s210, s211, s212, s213, s214, s215, s216, s217, s218, s219, s220, s221, s222, s223, s224, s225, s226, s227, s228, s229, s230, s231, s232, s233, s234, s235, s236, s237, s238, s239, s240, s241, s242, s243, s244, s245, s246, s247, s248, s249, s250, s251, s252, s253, s254, s255, s256, s257, s258, s259, s260, s261, s262, s263, s264, s265, s266, s267, s268, s269, s270, s271, s272, s273, s274, s275, s276, s277, s278, s279, s280, s281, s282, s283, s284, s285, s286, s287, s288, s289, s290, s291, s292, s293, s294, s295, s296], defers := [] } WA := by
  have HQ := PLift.up h
  clear h
  simp only [codeIn, Tryz.f5, codeOf, Option.bind_some, Option.getD_some, Nat.beq, cond_true, cond_false]
  have TP := Lib.hid TP0
  have HBW := Lib.hid TP0.has
  have CL' := Lib.hid CL
  have ML' := Lib.hid ML
  have OF' := Lib.hid OF
  have SC' := Lib.hid SC
  have FC' := Lib.hid fcs
  have YY := Lib.hid Y
  clear TP0 CL ML OF SC Y fcs
  go_loopw [123] (fun s wi => ∃ j : Nat, j ≤ 3 ∧ s = .int .i64 j ∧ Mv b n WA wi) (fun s _ => 3 - (intOf s).toNat)
  case atStart => exact ⟨0, Nat.zero_le _, rfl, Mv.refl TP.out⟩
  case round =>
    obtain ⟨j, hj, rfl, hm⟩ := hrel
    have M0 := Lib.hid hm
    clear hm
    by_cases hl : j < 3
    · have j3 : (j : Int) < 3 := by omega
      obtain ⟨af, at', f, t, cf, ct, hc0, hc1, hs, hf, ht⟩ := YY.out wr M0.out j hl
      have hh := has_of_cell hc0
      have E : Hid (∀ W, Mv b n WA W → Env18 W l ms f t al am af at') := Lib.hid (fun W hW => ⟨CL'.out W hW, fl, ML'.out W hW, fm, (hs W hW).1, by unfold Fit; omega, (hs W hW).2, by unfold Fit; omega, OF'.out W hW⟩)
      clear hs
      have CD := Lib.hid (clW_ok (l := l) (ms := ms) (f := f) (t := t))
      have CE := Lib.hid (fun s (hs : s ∈ clW l ms f t) => clW_lens hs)
      have PN : (plW l ms f t).length ≤ 4096 := plW_len
      have PE := Lib.hid (pathS_each f (plW l ms f t))
      have PL : Hid ((pathS f (plW l ms f t)).length = (plW l ms f t).length + 1) := Lib.hid (pathS_len _ _)
      have V1 := Lib.hid (fun W hW => pPlanG_any l ms f t al am af at' cl cm cf ct W (E.out W hW))
      have V2 := Lib.hid (fun W hW => refPlanG_any l ms f t al am af at' cl cm cf ct W (E.out W hW))
      have V3 := Lib.hid (fun W hW => pClosedG_any l ms f t al am af at' cl cm cf ct W (E.out W hW))
      have V4 := Lib.hid (fun W hW => refClosedG_any l ms f t al am af at' cl cm cf ct W (E.out W hW))
      have V5 := Lib.hid (fun W hW => proCalmG_any l ms f al af am cl cf cm W (E.out W hW).clks (E.out W hW).sf (E.out W hW).lmts fl (E.out W hW).ff fm (E.out W hW).off)
      have V6 := Lib.hid (fun W hW => refCalmG_any l ms f al af am cl cf cm W (E.out W hW).clks (E.out W hW).sf (E.out W hW).lmts fl (E.out W hW).ff fm)
      have V7 := Lib.hid (fun W hW ap cp hp => refSettingsG_any l ms f t al am af at' ap cl cf cp W (E.out W hW) hf hp)
      have V8 := Lib.hid (fun W hW ap cp hp => proSettingsG_any l ms f t al am af at' ap cl cf cp W (E.out W hW) hf hp)
      obtain ⟨cw, hcw⟩ : ∃ x, clW l ms f t = x := ⟨_, rfl⟩
      obtain ⟨ce, hce⟩ : ∃ x, clE l ms f t = x := ⟨_, rfl⟩
      obtain ⟨pw, hpw⟩ : ∃ x, plW l ms f t = x := ⟨_, rfl⟩
      obtain ⟨pe, hpe⟩ : ∃ x, plE l ms f t = x := ⟨_, rfl⟩
      obtain ⟨cb, hcb⟩ : ∃ x, calG l ms f = x := ⟨_, rfl⟩
      obtain ⟨pp, hpp⟩ : ∃ x, pathS f pw = x := ⟨_, rfl⟩
      rw [hpw, hpe] at V1 V2
      rw [hcw, hce] at V3 V4
      rw [hcb] at V5 V6
      rw [hpw, hpp] at V7 V8
      rw [hcw] at CD CE
      rw [hpw] at PN
      rw [hpw, hpp] at PE PL
      have CN : cw.length ≤ 4096 := CD.out.1
      clear hcw hce hpw hpe hcb hpp CD
      have lb1 : (pe != pe) = false := by simp
      have lb2 : (ce != ce) = false := by simp
      have lb3 : (cb != cb) = false := by simp
      obtain ⟨W1, hW1⟩ : ∃ W1 : World, Hid (W1 = wr.alloc (.cells #[.slice af f.length cf, .slice at' t.length ct] 67)) := ⟨_, Lib.hid rfl⟩
      have G1 : Hid (Gr wr W1) := Lib.hid (by rw [hW1.out]; exact (Gr.refl _).alloc _)
      have R1 : Hid (Row W1 wr.heap.size 67 [.slice af f.length cf, .slice at' t.length ct]) := Lib.hid (by rw [hW1.out]; exact Row.new _ _ _)
      have M1 := Lib.hid (M0.out.gr G1.out)
      have ZB : Hid (b < wr.heap.size) := Lib.hid (by have := M0.out.size; have := HBW.out; omega)
      obtain ⟨YB, hYB⟩ : ∃ YB : Nat, Hid (wr.heap.size = YB) := ⟨_, Lib.hid rfl⟩
      rw [hYB.out] at R1
      go_wp2_with fail
      rw [← hW1.out, hYB.out]
      clear hc0 hc1 hh
      refine (V1.out W1 M1.out).mono ?_
      rintro e w2 ⟨a1, c1, rfl, hs1, hg2⟩
      have G2 := Lib.hid hg2
      have M2 := Lib.hid (M1.out.gr hg2)
      have S1 := Lib.hid hs1
      obtain ⟨y0, y1, yh⟩ := pair_at (R1.out.gr hg2)
      clear hs1 hg2 V1
      go_wp2_with fail
      clear y0 y1 yh
      refine (V2.out w2 M2.out).mono ?_
      rintro e w3 ⟨a2, c2, rfl, hs2, hg3⟩
      have G3 := Lib.hid (G2.out.trans hg3)
      have M3 := Lib.hid (M2.out.gr hg3)
      have S12 := Lib.hid (And.intro (SlOf.gr RWc.mono S1.out hg3) hs2)
      have ZB2 : Hid (b < w2.heap.size) := Lib.hid (by have := G2.out.size; have := G1.out.size; have := ZB.out; omega)
      obtain ⟨y0, y1, yh⟩ := pair_at (R1.out.gr G3.out)
      clear hs2 hg3 V2 S1 G2 M2
      go_wp2_with fail
      clear y0 y1 yh
      refine (V3.out w3 M3.out).mono ?_
      rintro e w4 ⟨a3, c3, rfl, hs3, hg4⟩
      have G4 := Lib.hid (G3.out.trans hg4)
      have M4 := Lib.hid (M3.out.gr hg4)
      have S13 := Lib.hid (And.intro (SlOf.gr RWc.mono S12.out.1 hg4) (And.intro (S12.out.2.gr hg4) hs3))
      obtain ⟨y0, y1, yh⟩ := pair_at (R1.out.gr G4.out)
      clear hs3 hg4 V3 S12 G3 M3
      go_wp2_with fail
      clear y0 y1 yh
      refine (V4.out w4 M4.out).mono ?_
      rintro e w5 ⟨a4, c4, rfl, hs4, hg5⟩
      have G5 := Lib.hid (G4.out.trans hg5)
      have M5 := Lib.hid (M4.out.gr hg5)
      have S14 := Lib.hid (And.intro (SlOf.gr RWc.mono S13.out.1 hg5) (And.intro (S13.out.2.1.gr hg5) (And.intro (SlOf.gr RSet.mono S13.out.2.2 hg5) hs4)))
      have ZB4 : Hid (b < w4.heap.size) := Lib.hid (by have := G4.out.size; have := G1.out.size; have := ZB.out; omega)
      have Z45 : Hid (w4.heap.size ≤ w5.heap.size) := Lib.hid hg5.size
      obtain ⟨N4, hN4⟩ : ∃ N4, w4.heap.size = N4 := ⟨_, rfl⟩
      obtain ⟨N2, hN2⟩ : ∃ N2, w2.heap.size = N2 := ⟨_, rfl⟩
      rw [hN4] at S14 ZB4 Z45
      rw [hN2] at S14 ZB2
      have X1 := Lib.hid (fun W (hW : Gr w5 W) => by
        have := sameWrites_any pw pw a1 a2 c1 c2 W (SlOf.gr RWc.mono S14.out.1 hW) (S14.out.2.1.gr hW).lo (by unfold Fit; omega) (by unfold Fit; omega)
        rw [decide_eq_true rfl] at this
        exact (this : Calls Tryz.prog 38 #[.slice a1 pw.length c1, .slice a2 pw.length c2] W (Grows W (.bool true))))
      have X2 := Lib.hid (fun W (hW : Gr w5 W) => sameSetG_any cw a3 a4 c3 c4 W (SlOf.gr RSet.mono S14.out.2.2.1 hW) (S14.out.2.2.2.gr hW).sets (fun s hs => by have := CE.out s hs; unfold Fit; omega) (by omega))
      have X3 := Lib.hid (fun W (hW : Gr w5 W) => V5.out W (M5.out.gr hW))
      have X4 := Lib.hid (fun W (hW : Gr w5 W) => V6.out W (M5.out.gr hW))
      obtain ⟨y0, y1, yh⟩ := pair_at (R1.out.gr G5.out)
      clear hs4 hg5 V4 V5 V6 S13 G4 M4 hN4 hN2
      go_wp2_with fail
      refine wp_region_grows (by kernel_rfl) (by kernel_rfl) ?_
      repeat (go_big_quiet_step (first | (go_at_call 38; exact calls_grows (X1.out _ (by repeat (first | with_reducible exact Gr.refl _ | with_reducible refine Gr.drewN _ ?_ | with_reducible refine Gr.xt _ _ ?_)))) | (go_at_call 39; exact calls_grows (X2.out _ (by repeat (first | with_reducible exact Gr.refl _ | with_reducible refine Gr.drewN _ ?_ | with_reducible refine Gr.xt _ _ ?_)))) | (go_at_call 40; exact calls_grows (X3.out _ (by repeat (first | with_reducible exact Gr.refl _ | with_reducible refine Gr.drewN _ ?_ | with_reducible refine Gr.xt _ _ ?_)))) | (go_at_call 41; exact calls_grows (X4.out _ (by repeat (first | with_reducible exact Gr.refl _ | with_reducible refine Gr.drewN _ ?_ | with_reducible refine Gr.xt _ _ ?_))))))
      refine wpQuiet_nil ?_
      rintro _ ⟨⟨O, d⟩, rfl⟩
      clear y0 y1 yh X1 X2 X3 X4
      obtain ⟨w6, hw6⟩ : ∃ w6 : World, Hid (w6 = xt w5 O d) := ⟨_, Lib.hid rfl⟩
      have H6 : Hid (Gr w5 w6) := Lib.hid (by rw [hw6.out]; exact (Gr.refl _).xt _ _)
      show Exit.then _ _ _ _ (xt w5 O d)
      rw [← hw6.out]
      have G6 := Lib.hid (G5.out.trans H6.out)
      have M6 := Lib.hid (M5.out.gr H6.out)
      have T2 := Lib.hid (S14.out.2.1.gr H6.out)
      have T4 := Lib.hid (S14.out.2.2.2.gr H6.out)
      have R6 := Lib.hid (R1.out.gr G6.out)
      have Z46 : Hid (N4 ≤ w6.heap.size) := Lib.hid (by have := H6.out.size; have := Z45.out; omega)
      clear hw6 S14 G5 M5 R1 H6 Z45
      go_wp2_with fail
      refine (bentS_any w6 b n N4 c4 a4 cw (M6.out.tp TP.out) T4.out ZB4.out Z46.out (by omega) CE.out).mono ?_
      rintro e w7 ⟨q, a5, c5, rfl, hs5, hl5, hn5, hm7⟩
      have M7 := Lib.hid (M6.out.trans HBW.out hm7)
      have Z7 : Hid (YB ≠ b) := Lib.hid (by have := ZB.out; have := hYB.out; omega)
      have R7 := Lib.hid (hm7.row R6.out Z7.out)
      have T27 := Lib.hid (T2.out.mv ZB2.out hm7)
      have T47 := Lib.hid (T4.out.mv ZB4.out hm7)
      have S5 := Lib.hid hs5
      have N5 := Lib.hid hn5
      clear hs5 hn5 hm7 T2 T4 R6 M6
      obtain ⟨W8, hW8⟩ : ∃ W8 : World, Hid (W8 = w7.alloc (.cells #[.slice aC cs.length cC, .slice a4 cw.length c4, .slice a5 q.length c5] 59)) := ⟨_, Lib.hid rfl⟩
      have G8 : Hid (Gr w7 W8) := Lib.hid (by rw [hW8.out]; exact (Gr.refl _).alloc _)
      have B8 : Hid (Row W8 w7.heap.size 59 [.slice aC cs.length cC, .slice a4 cw.length c4, .slice a5 q.length c5]) := Lib.hid (by rw [hW8.out]; exact Row.new _ _ _)
      have M8 := Lib.hid (M7.out.gr G8.out)
      go_wp2_with fail
      rw [← hW8.out]
      refine wp_code_eq (c := codeIn 6 Tryz.f5) (by kernel_rfl) (raB (gz := w7.heap.size) (Y := YB) (E.out W8 M8.out) (R7.out.gr G8.out) (fun k hk => ?_) ?_)
      · have d0 := B8.out.cell 0 (by simp)
        have d1 := B8.out.cell 1 (by simp)
        have d2 := B8.out.cell 2 (by simp)
        obtain rfl | rfl | rfl : k = 0 ∨ k = 1 ∨ k = 2 := by omega
        · exact ⟨aC, cs, cC, d0, SC'.out W8 M8.out, hcs, FC'.out⟩
        · exact ⟨a4, cw, c4, d1, (T47.out.gr G8.out).sets, by omega, fun s hs => by have := CE.out s hs; unfold Fit; omega⟩
        · exact ⟨a5, q, c5, d2, SlOf.gr RSet.mono S5.out G8.out, by omega, fun s hs => by have := N5.out s hs; unfold Fit; omega⟩
      intro t14 t37 t207 t208 t209 t210 t211 t212 t213 t214 t215 t216 t217 t218 t219 t220 t221 t222 t223 t224 t225 t226 t227 t228 wx hgx
      have GX := Lib.hid (G8.out.trans hgx)
      have MX := Lib.hid (M7.out.gr GX.out)
      have TX := Lib.hid (T27.out.gr GX.out).lo
      obtain ⟨y0, y1, yh⟩ := pair_at (R7.out.gr GX.out)
      clear hgx B8 hW8 G8 M8 T47 S5 N5 T27
      go_wp2_with fail
      clear y0 y1 yh
      refine (V8.out wx MX.out a2 c2 TX.out).mono ?_
      rintro e w9 ⟨a6, c6, rfl, hs6, hg9⟩
      have G9 := Lib.hid (GX.out.trans hg9)
      have M9 := Lib.hid (M7.out.gr G9.out)
      have S6 := Lib.hid hs6
      have TY := Lib.hid (SlOf.gr RWc.mono TX.out hg9)
      obtain ⟨y0, y1, yh⟩ := pair_at (R7.out.gr G9.out)
      clear hs6 hg9 TX GX MX V8
      go_wp2_with fail
      clear y0 y1 yh
      refine (V7.out w9 M9.out a2 c2 TY.out).mono ?_
      rintro e w10 ⟨a7, c7, rfl, hs7, hg10⟩
      have M10 := Lib.hid (M9.out.gr hg10)
      have X5 := Lib.hid (sameSetG_any pp a6 a7 c6 c7 w10 (SlOf.gr RSet.mono S6.out hg10) hs7 (fun s hs => by rw [PE.out s hs]; unfold Fit; omega) (by have := PL.out; omega))
      clear hs7 hg10 TY S6 G9 M9 V7
      go_wp2_with fail
      refine X5.out.mono ?_
      rintro e w11 ⟨rfl, hg11⟩
      have M11 := Lib.hid (M10.out.gr hg11)
      clear hg11 X5 M10
      go_wp2_with fail
      go_roundw
      case rel => exact ⟨j + 1, by omega, by simp, M11.out⟩
      case measure => simp [intOf]; omega
    · obtain rfl : j = 3 := by omega
      go_wp2_with fail
      exact HQ.down _ _ _ _ _ _ _ _ _ _ _ _ _ _ _ _ _ _ _ _ _ _ _ _ _ _ _ _ _ _ _ _ _ _ _ _ _ _ _ _ _ _ _ _ _ _ _ _ _ _ _ _ _ _ _ _ _ _ _ _ _ _ _ _ _ _ _ _ _ _ _ _ _ _ _ _ _ _ _ _ _ _ _ _ _ _ _ _ _ _ _ _ _ _ _ _ _ _ _ _ _ _ _ _ _ _ _ _ _ _ _ _ _ _ _ _ _ _ _ _ _ _ _ _ _ _ _ _ _ _ _ _ _ _ _ _ _ _ _ _ _ _ _ _ _ _ _ _ M0.out
theorem raD {Q : Exit → Act → World → Prop} {s0 s1 s4 s5 s7 s8 s9 s10 s11 s12 s13 s14 s16 s17 s20 s22 s24 s25 s26 s27 s28 s29 s30 s31 s32 s33 s34 s35 s36 s37 s38 s39 s40 s41 s42 s43 s44 s45 s46 s47 s48 s49 s50 s51 s52 s53 s54 s55 s56 s57 s58 s59 s60 s61 s62 s63 s64 s65 s66 s67 s68 s69 s70 s71 s72 s73 s74 s75 s76 s77 s78 s79 s80 s81 s82 s83 s84 s85 s86 s87 s88 s89 s90 s91 s92 s93 s94 s95 s96 s97 s98 s99 s100 s101 s102 s103 s104 s105 s109 s110 s111 s112 s113 s114 s115 s116 s117 s118 s119 s120 s121 s122 s123 s124 s125 s126 s127 s128 s129 s130 s131 s132 s133 s134 s135 s136 s137 s138 s139 s140 s141 s142 s143 s144 s145 s146 s147 s148 s149 s150 s151 s152 s153 s154 s155 s156 s157 s158 s159 s160 s161 s162 s163 s164 s165 s166 s167 s168 s169 s170 s171 s172 s173 s174 s175 s176 s177 s178 s179 s180 s181 s182 s183 s184 s185 s186 s187 s188 s189 s190 s191 s192 s193 s194 s195 s196 s197 s198 s199 s200 s201 s202 s203 s204 s205 s206 s207 s208 s209 s210 s211 s212 s213 s214 s215 s216 s217 s218 s219 s220 s221 s222 s223 s224 s225 s226 s227 s228 s229 s230 s231 s232 s233 s234 s235 s236 s237 s238 s239 s240 s241 s242 s243 s244 s245 s246 s247 s248 s249 s250 s251 s252 s253 s254 s255 s256 s257 s258 s259 s260 s261 s262 s263 s264 s265 s266 s267 s268 s269 s270 s271 s272 s273 s274 s275 s276 s277 s278 s279 s280 s281 s282 s283 s284 s285 s286 s287 s288 s289 s290 s291 s292 s293 s294 s295 s296 : Value} {b n : Nat} {l : List Clk} {cs : List (List Int)} {al aC : Option Addr} {cl cC gz : Nat} {la lb lf lt lo : List Int} {aA aB aF aT aO : Option Addr} {cA cB cF cT cO : Nat} {WA : World}
    (TP0 : Tp WA b n) (CL : ∀ W, Mv b n WA W → SlOf 5 RClk W al l) (fl : Fit l.length) (OF : ∀ W, Mv b n WA W → OffV W) (SC : ∀ W, Mv b n WA W → SlOf 1 RSet W aC cs) (hcs : cs.length ≤ 1000000) (fcs : ∀ s ∈ cs, Fit s.length)
    (SS : ∀ W, Mv b n WA W → SlOf 1 RI W aA la ∧ SlOf 1 RI W aB lb ∧ SlOf 1 RI W aF lf ∧ SlOf 1 RI W aT lt ∧ SlOf 1 RI W aO lo) (hls : la.length ≤ 1000000 ∧ lb.length ≤ 1000000 ∧ lf.length ≤ 1000000 ∧ lt.length ≤ 1000000 ∧ lo.length ≤ 1000000)
    (Z : ∀ W, Mv b n WA W → ∀ k, k < 2 → ∃ (am : Option Addr) (ms : List Lmt) (cm : Nat), W.cell? ⟨gz, k, none⟩ = some (.slice am ms.length cm) ∧ (∀ W', Mv b n WA W' → SlOf 3 RLmt W' am ms) ∧ Fit ms.length)
    (h : ∀ (t14 t25 t27 t28 t29 t30 t31 t32 t33 t34 t35 t37 t38 t39 t40 t41 t108 t109 t110 t111 t112 t113 t114 t115 t116 t117 t118 t119 t120 t121 t122 t123 t124 t125 t126 t127 t128 t129 t130 t131 t132 t133 t134 t135 t136 t137 t138 t139 t140 t141 t142 t143 t144 t145 t146 t147 t148 t149 t150 t151 t152 t153 t154 t155 t156 t157 t158 t159 t160 t161 t162 t163 t164 t165 t166 t167 t168 t169 t170 t171 t172 t173 t174 t175 t176 t177 t178 t179 t180 t181 t182 t183 t184 t185 t186 t187 t188 t189 t190 t191 t192 t193 t194 t195 t196 t197 t198 t199 t200 t201 t202 t203 t204 t205 t206 t207 t208 t209 t210 t211 t212 t213 t214 t215 t216 t217 t218 t219 t220 t221 t222 t223 t224 t225 t226 t227 t228 t229 t230 t231 t232 t233 t234 t235 t236 t237 t238 t239 t240 t241 t242 t243 t244 t245 t246 t247 t248 t249 t250 t251 t252 t253 t254 t255 : Value) (wx : World), Mv b n WA wx → Q (.exit 2) { tmps := #[s0, s1, .slice aA la.length cA, .slice aB lb.length cB, s4, s5, .slice aC cs.length cC, s7, s8, s9, s10, s11, s12, s13, t14, .pointer (some ⟨b, 0, none⟩), s16, s17, .slice aF lf.length cF, .slice aT lt.length cT, s20, .slice aO lo.length cO, s22, .slice al l.length cl, s24, t25, s26, t27, t28, t29, t30, t31, t32, t33, t34, t35, s36, t37, t38, t39, t40, t41, s42, s43, s44, s45, s46, s47, s48, s49, s50, s51, s52, s53, s54, s55, s56, s57, s58, s59, s60, s61, s62, s63, s64, s65, s66, s67, s68, s69, s70, s71, s72, s73, s74, s75, s76, s77, s78, s79, s80, s81, s82, s83, s84, s85, s86, s87, s88, s89, s90, s91, s92, s93, s94, s95, s96, s97, s98, s99, s100, s101, s102, s103, s104, s105, .slice (some ⟨gz, 0, none⟩) 2 2, .int .i64 2, t108, t109, t110, t111, t112, t113, t114, t115, t116, t117, t118, t119, t120, t121, t122, t123, t124, t125, t126, t127, t128, t129, t130, t131, t132, t133, t134, t135, t136, t137, t138, t139, t140, t141, t142, t143, t144, t145, t146, t147, t148, t149, t150, t151, t152, t153, t154, t155, t156, t157, t158, t159, t160, t161, t162, t163, t164, t165, t166, t167, t168, t169, t170, t171, t172, t173, t174, t175, t176, t177, t178, t179, t180, t181, t182, t183, t184, t185, t186, t187, t188, t189, t190, t191, t192, t193, t194, t195, t196, t197, t198, t199, t200, t201, t202, t203, t204, t205, t206, t207, t208, t209, t210, t211, t212, t213, t214, t215, t216, t217, t218, t219, t220, t221, t222, t223, t224, t225, t226, t227, t228, t229, t230, t231, t232, t233, t234, t235, t236, t237, t238, t239, t240, t241, t242, t243, t244, t245, t246, t247, t248, t249, t250, t251, t252, t253, t254, t255, s256, s257, s258, s259, s260, s261, s262, s263, s264, s265, s266, s267, s268, s269, s270, s271, s272, s273, s274, s275, s276, s277, s278, s279, s280, s281, s282, s283, s284, s285, s286, s287, s288, s289, s290, s291, s292, s293, s294, s295, s296], defers := [] } wx) :
    (codeIn 2 Tryz.f5).wp Tryz.prog Q { tmps := #[s0, s1, .slice aA la.length cA, .slice aB lb.length cB, s4, s5, .slice aC cs.length cC, s7, s8, s9, s10, s11, s12, s13, s14, .pointer (some ⟨b, 0, none⟩), s16, s17, .slice aF lf.length cF, .slice aT lt.length cT, s20, .slice aO lo.length cO, s22, .slice al l.length cl, s24, s25, s26, s27, s28, s29, s30, s31, s32, s33, s34, s35, s36, s37, s38, s39, s40, s41, s42, s43, s44, s45, s46, s47, s48, s49, s50, s51, s52, s53, s54, s55, s56, s57, s58, s59, s60, s61, s62, s63, s64, s65, s66, s67, s68, s69, s70, s71, s72, s73, s74, s75, s76, s77, s78, s79, s80, s81, s82, s83, s84, s85, s86, s87, s88, s89, s90, s91, s92, s93, s94, s95, s96, s97, s98, s99, s100, s101, s102, s103, s104, s105, .slice (some ⟨gz, 0, none⟩) 2 2, .int .i64 2, .int .i64 0, s109, s110, s111, s112, s113, s114, s115, s116, s117, s118, s119, s120, s121, s122, s123, s124, s125, s126, s127, s128, s129, s130, s131, s132, s133, s134, s135, s136, s137, s138, s139, s140, s141, s142, s143, s144, s145, s146, s147, s148, s149, s150, s151, s152, s153, s154, s155, s156, s157, s158, s159, s160, s161, s162, s163, s164, s165, s166, s167, s168, s169, s170, s171, s172, s173, s174, s175, s176, s177, s178, s179, s180, s181, s182, s183, s184, s185, s186, s187, s188, s189, s190, s191, s192, s193, s194, s195, s196, s197, s198, s199, s200, s201, s202, s203, s204, s205, s206, s207, s208, s209, s210, s211, s212, s213, s214, s215, s216, s217, s218, s219, s220, s221, s222, s223, s224, s225, s226, s227, s228, s229, s230, s231, s232, s233, s234, s235, s236, s237, s238, s239, s240, s241, s242, s243, s244, s245, s246, s247, s248, s249, s250, s251, s252, s253, s254, s255, s256, s257, s258, s259, s260, s261, s262, s263, s264, s265, s266, s267, s268, s269, s270, s271, s272, s273, s274, s275, s276, s277, s278, s279, s280, s281, s282, s283, s284, s285, s286, s287, s288, s289, s290, s291, s292, s293, s294, s295, s296], defers := [] } WA := by
  have HQ := PLift.up h
  clear h
  simp only [codeIn, Tryz.f5, codeOf, Option.bind_some, Option.getD_some, Nat.beq, cond_true, cond_false]
  have TP := Lib.hid TP0
  have HBW := Lib.hid TP0.has
  have CL' := Lib.hid CL
  have OF' := Lib.hid OF
  have SC' := Lib.hid SC
  have FC' := Lib.hid fcs
  have SS' := Lib.hid SS
  have ZZ := Lib.hid Z
  have LS := Lib.hid hls
  clear TP0 CL OF SC Z fcs SS
  go_loopw [108] (fun s wi => ∃ j : Nat, j ≤ 2 ∧ s = .int .i64 j ∧ Mv b n WA wi) (fun s _ => 2 - (intOf s).toNat)
  case atStart => exact ⟨0, Nat.zero_le _, rfl, Mv.refl TP.out⟩
  case round =>
    obtain ⟨j, hj, rfl, hm⟩ := hrel
    have M0 := Lib.hid hm
    clear hm
    by_cases hl : j < 2
    · have j3 : (j : Int) < 2 := by omega
      obtain ⟨am, ms, cm, hc, hs, fm⟩ := ZZ.out wr M0.out j hl
      have hh := has_of_cell hc
      have MS := Lib.hid hs
      clear hs
      obtain ⟨W1, hW1⟩ : ∃ W1 : World, Hid (W1 = wr.alloc (.cells #[.slice aA la.length cA, .slice aB lb.length cB, .slice aF lf.length cF, .slice aT lt.length cT, .slice aF lf.length cF, .slice aO lo.length cO] 67)) := ⟨_, Lib.hid rfl⟩
      have G1 : Hid (Gr wr W1) := Lib.hid (by rw [hW1.out]; exact (Gr.refl _).alloc _)
      have R1 : Hid (Row W1 wr.heap.size 67 [.slice aA la.length cA, .slice aB lb.length cB, .slice aF lf.length cF, .slice aT lt.length cT, .slice aF lf.length cF, .slice aO lo.length cO]) := Lib.hid (by rw [hW1.out]; exact Row.new _ _ _)
      have M1 := Lib.hid (M0.out.gr G1.out)
      have ZB : Hid (b < wr.heap.size) := Lib.hid (by have := M0.out.size; have := HBW.out; omega)
      go_wp2_with fail
      rw [← hW1.out]
      clear hc hh
      refine wp_code_eq (c := codeIn 4 Tryz.f5) (by kernel_rfl) (raC (gy := wr.heap.size) (WA := W1) (M1.out.tp TP.out) (fun W hW => CL'.out W (M1.out.trans HBW.out hW)) fl (fun W hW => MS.out W (M1.out.trans HBW.out hW)) fm (fun W hW => OF'.out W (M1.out.trans HBW.out hW)) (fun W hW => SC'.out W (M1.out.trans HBW.out hW)) hcs FC'.out (fun W hW k hk => ?_) ?_)
      · have r := hW.row R1.out (by have := ZB.out; omega)
        have c0 := r.cell 0 (by simp)
        have c1 := r.cell 1 (by simp)
        have c2 := r.cell 2 (by simp)
        have c3 := r.cell 3 (by simp)
        have c4 := r.cell 4 (by simp)
        have c5 := r.cell 5 (by simp)
        have Q := fun W' (hW' : Mv b n W1 W') => SS'.out W' (M1.out.trans HBW.out hW')
        obtain ⟨l1, l2, l3, l4, l5⟩ := LS.out
        obtain rfl | rfl | rfl : k = 0 ∨ k = 1 ∨ k = 2 := by omega
        · exact ⟨aA, aB, la, lb, cA, cB, c0, c1, fun W' hW' => ⟨(Q W' hW').1, (Q W' hW').2.1⟩, l1, l2⟩
        · exact ⟨aF, aT, lf, lt, cF, cT, c2, c3, fun W' hW' => ⟨(Q W' hW').2.2.1, (Q W' hW').2.2.2.1⟩, l3, l4⟩
        · exact ⟨aF, aO, lf, lo, cF, cO, c4, c5, fun W' hW' => ⟨(Q W' hW').2.2.1, (Q W' hW').2.2.2.2⟩, l3, l5⟩
      intro t14 t27 t28 t29 t30 t31 t32 t33 t34 t35 t37 t38 t39 t40 t41 t123 t124 t125 t126 t127 t128 t129 t130 t131 t132 t133 t134 t135 t136 t137 t138 t139 t140 t141 t142 t143 t144 t145 t146 t147 t148 t149 t150 t151 t152 t153 t154 t155 t156 t157 t158 t159 t160 t161 t162 t163 t164 t165 t166 t167 t168 t169 t170 t171 t172 t173 t174 t175 t176 t177 t178 t179 t180 t181 t182 t183 t184 t185 t186 t187 t188 t189 t190 t191 t192 t193 t194 t195 t196 t197 t198 t199 t200 t201 t202 t203 t204 t205 t206 t207 t208 t209 t210 t211 t212 t213 t214 t215 t216 t217 t218 t219 t220 t221 t222 t223 t224 t225 t226 t227 t228 t229 t230 t231 t232 t233 t234 t235 t236 t237 t238 t239 t240 t241 t242 t243 t244 t245 t246 t247 t248 t249 t250 t251 t252 t253 t254 wx hmx
      have MX := Lib.hid (M1.out.trans HBW.out hmx)
      clear hmx
      go_wp2_with fail
      go_roundw
      case rel => exact ⟨j + 1, by omega, by simp, MX.out⟩
      case measure => simp [intOf]; omega
    · obtain rfl : j = 2 := by omega
      go_wp2_with fail
      exact HQ.down _ _ _ _ _ _ _ _ _ _ _ _ _ _ _ _ _ _ _ _ _ _ _ _ _ _ _ _ _ _ _ _ _ _ _ _ _ _ _ _ _ _ _ _ _ _ _ _ _ _ _ _ _ _ _ _ _ _ _ _ _ _ _ _ _ _ _ _ _ _ _ _ _ _ _ _ _ _ _ _ _ _ _ _ _ _ _ _ _ _ _ _ _ _ _ _ _ _ _ _ _ _ _ _ _ _ _ _ _ _ _ _ _ _ _ _ _ _ _ _ _ _ _ _ _ _ _ _ _ _ _ _ _ _ _ _ _ _ _ _ _ _ _ _ _ _ _ _ _ _ _ _ _ _ _ _ _ _ _ _ _ _ _ _ _ M0.out
theorem raF {Q : Exit → Act → World → Prop} {s0 s1 s5 s7 s8 s9 s10 s11 s13 s14 s16 s20 s22 s23 s24 s25 s26 s27 s28 s29 s30 s31 s32 s33 s34 s35 s36 s37 s38 s39 s40 s41 s42 s43 s44 s45 s46 s47 s48 s49 s50 s51 s52 s53 s54 s55 s56 s57 s58 s59 s60 s61 s62 s63 s64 s65 s66 s67 s68 s69 s70 s71 s72 s73 s74 s75 s76 s77 s78 s79 s80 s81 s82 s83 s84 s85 s86 s87 s88 s89 s93 s94 s95 s96 s97 s98 s99 s100 s101 s102 s103 s104 s105 s106 s107 s108 s109 s110 s111 s112 s113 s114 s115 s116 s117 s118 s119 s120 s121 s122 s123 s124 s125 s126 s127 s128 s129 s130 s131 s132 s133 s134 s135 s136 s137 s138 s139 s140 s141 s142 s143 s144 s145 s146 s147 s148 s149 s150 s151 s152 s153 s154 s155 s156 s157 s158 s159 s160 s161 s162 s163 s164 s165 s166 s167 s168 s169 s170 s171 s172 s173 s174 s175 s176 s177 s178 s179 s180 s181 s182 s183 s184 s185 s186 s187 s188 s189 s190 s191 s192 s193 s194 s195 s196 s197 s198 s199 s200 s201 s202 s203 s204 s205 s206 s207 s208 s209 s210 s211 s212 s213 s214 s215 s216 s217 s218 s219 s220 s221 s222 s223 s224 s225 s226 s227 s228 s229 s230 s231 s232 s233 s234 s235 s236 s237 s238 s239 s240 s241 s242 s243 s244 s245 s246 s247 s248 s249 s250 s251 s252 s253 s254 s255 s256 s257 s258 s259 s260 s261 s262 s263 s264 s265 s266 s267 s268 s269 s270 s271 s272 s273 s274 s275 s276 s277 s278 s279 s280 s281 s282 s283 s284 s285 s286 s287 s288 s289 s290 s291 s292 s293 s294 s295 s296 : Value} {b n bw : Nat} {m way : List Lmt} {p : Wri} {cs : List (List Int)} {aM aW aC : Option Addr} {cM cW cC gx : Nat} {la lb lf lt lo : List Int} {aA aB aF aT aO : Option Addr} {cA cB cF cT cO : Nat} {WA : World}
    (TP0 : Tp WA b n) (OF : ∀ W, Mv b n WA W → OffV W) (SC : ∀ W, Mv b n WA W → SlOf 1 RSet W aC cs) (hcs : cs.length ≤ 1000000) (fcs : ∀ s ∈ cs, Fit s.length)
    (SS : ∀ W, Mv b n WA W → SlOf 1 RI W aA la ∧ SlOf 1 RI W aB lb ∧ SlOf 1 RI W aF lf ∧ SlOf 1 RI W aT lt ∧ SlOf 1 RI W aO lo) (hls : la.length ≤ 1000000 ∧ lb.length ≤ 1000000 ∧ lf.length ≤ 1000000 ∧ lt.length ≤ 1000000 ∧ lo.length ≤ 1000000)
    (ML : ∀ W, Mv b n WA W → SlOf 3 RLmt W aM m) (fm : Fit m.length) (WY : ∀ W, Mv b n WA W → SlOf 3 RLmt W aW way) (fw : Fit way.length)
    (BW : Row WA bw 65 [.int .i64 p.kind, .int .i64 p.unit, .int .i64 p.value]) (hbw : bw ≠ b) (hp : WriWd p)
    (X : ∀ W, Mv b n WA W → ∀ k, k < 3 → ∃ (a : Option Addr) (q : List Clk) (c : Nat), W.cell? ⟨gx, k, none⟩ = some (.slice a q.length c) ∧ (∀ W', Mv b n WA W' → SlOf 5 RClk W' a q) ∧ Fit q.length)
    (h : ∀ (t14 t23 t25 t27 t28 t29 t30 t31 t32 t33 t34 t35 t37 t38 t39 t40 t41 t43 t44 t45 t46 t47 t92 t93 t94 t95 t96 t97 t98 t99 t100 t101 t102 t103 t104 t105 t106 t107 t108 t109 t110 t111 t112 t113 t114 t115 t116 t117 t118 t119 t120 t121 t122 t123 t124 t125 t126 t127 t128 t129 t130 t131 t132 t133 t134 t135 t136 t137 t138 t139 t140 t141 t142 t143 t144 t145 t146 t147 t148 t149 t150 t151 t152 t153 t154 t155 t156 t157 t158 t159 t160 t161 t162 t163 t164 t165 t166 t167 t168 t169 t170 t171 t172 t173 t174 t175 t176 t177 t178 t179 t180 t181 t182 t183 t184 t185 t186 t187 t188 t189 t190 t191 t192 t193 t194 t195 t196 t197 t198 t199 t200 t201 t202 t203 t204 t205 t206 t207 t208 t209 t210 t211 t212 t213 t214 t215 t216 t217 t218 t219 t220 t221 t222 t223 t224 t225 t226 t227 t228 t229 t230 t231 t232 t233 t234 t235 t236 t237 t238 t239 t240 t241 t242 t243 t244 t245 t246 t247 t248 t249 t250 t251 t252 t253 t254 t255 t256 t257 t258 t259 t260 t261 t262 t263 t264 t265 t266 t267 t268 t269 t270 t271 t272 t273 t274 t275 t276 t277 t278 t279 t280 t281 t282 t283 t284 t285 t286 t287 t288 t289 t290 t291 t292 t293 t294 t295 : Value) (wx : World), Mv b n WA wx → Q (.exit 0) { tmps := #[s0, s1, .slice aA la.length cA, .slice aB lb.length cB, .slice aM m.length cM, s5, .slice aC cs.length cC, s7, s8, s9, s10, s11, .pointer (some ⟨bw, 0, none⟩), s13, t14, .pointer (some ⟨b, 0, none⟩), s16, .slice aW way.length cW, .slice aF lf.length cF, .slice aT lt.length cT, s20, .slice aO lo.length cO, s22, t23, s24, t25, s26, t27, t28, t29, t30, t31, t32, t33, t34, t35, s36, t37, t38, t39, t40, t41, s42, t43, t44, t45, t46, t47, s48, s49, s50, s51, s52, s53, s54, s55, s56, s57, s58, s59, s60, s61, s62, s63, s64, s65, s66, s67, s68, s69, s70, s71, s72, s73, s74, s75, s76, s77, s78, s79, s80, s81, s82, s83, s84, s85, s86, s87, s88, s89, .slice (some ⟨gx, 0, none⟩) 3 3, .int .i64 3, t92, t93, t94, t95, t96, t97, t98, t99, t100, t101, t102, t103, t104, t105, t106, t107, t108, t109, t110, t111, t112, t113, t114, t115, t116, t117, t118, t119, t120, t121, t122, t123, t124, t125, t126, t127, t128, t129, t130, t131, t132, t133, t134, t135, t136, t137, t138, t139, t140, t141, t142, t143, t144, t145, t146, t147, t148, t149, t150, t151, t152, t153, t154, t155, t156, t157, t158, t159, t160, t161, t162, t163, t164, t165, t166, t167, t168, t169, t170, t171, t172, t173, t174, t175, t176, t177, t178, t179, t180, t181, t182, t183, t184, t185, t186, t187, t188, t189, t190, t191, t192, t193, t194, t195, t196, t197, t198, t199, t200, t201, t202, t203, t204, t205, t206, t207, t208, t209, t210, t211, t212, t213, t214, t215, t216, t217, t218, t219, t220, t221, t222, t223, t224, t225, t226, t227, t228, t229, t230, t231, t232, t233, t234, t235, t236, t237, t238, t239, t240, t241, t242, t243, t244, t245, t246, t247, t248, t249, t250, t251, t252, t253, t254, t255, t256, t257, t258, t259, t260, t261, t262, t263, t264, t265, t266, t267, t268, t269, t270, t271, t272, t273, t274, t275, t276, t277, t278, t279, t280, t281, t282, t283, t284, t285, t286, t287, t288, t289, t290, t291, t292, t293, t294, t295, s296], defers := [] } wx) :
    (codeIn 0 Tryz.f5).wp Tryz.prog Q { tmps := #[s0, s1, .slice aA la.length cA, .slice aB lb.length cB, .slice aM m.length cM, s5, .slice aC cs.length cC, s7, s8, s9, s10, s11, .pointer (some ⟨bw, 0, none⟩), s13, s14, .pointer (some ⟨b, 0, none⟩), s16, .slice aW way.length cW, .slice aF lf.length cF, .slice aT lt.length cT, s20, .slice aO lo.length cO, s22, s23, s24, s25, s26, s27, s28, s29, s30, s31, s32, s33, s34, s35, s36, s37, s38, s39, s40, s41, s42, s43, s44, s45, s46, s47, s48, s49, s50, s51, s52, s53, s54, s55, s56, s57, s58, s59, s60, s61, s62, s63, s64, s65, s66, s67, s68, s69, s70, s71, s72, s73, s74, s75, s76, s77, s78, s79, s80, s81, s82, s83, s84, s85, s86, s87, s88, s89, .slice (some ⟨gx, 0, none⟩) 3 3, .int .i64 3, .int .i64 0, s93, s94, s95, s96, s97, s98, s99, s100, s101, s102, s103, s104, s105, s106, s107, s108, s109, s110, s111, s112, s113, s114, s115, s116, s117, s118, s119, s120, s121, s122, s123, s124, s125, s126, s127, s128, s129, s130, s131, s132, s133, s134, s135, s136, s137, s138, s139, s140, s141, s142, s143, s144, s145, s146, s147, s148, s149, s150, s151, s152, s153, s154, s155, s156, s157, s158, s159, s160, s161, s162, s163, s164, s165, s166, s167, s168, s169, s170, s171, s172, s173, s174, s175, s176, s177, s178, s179, s180, s181, s182, s183, s184, s185, s186, s187, s188, s189, s190, s191, s192, s193, s194, s195, s196, s197, s198, s199, s200, s201, s202, s203, s204, s205, s206, s207, s208, s209, s210, s211, s212, s213, s214, s215, s216, s217, s218, s219, s220, s221, s222, s223, s224, s225, s226, s227, s228, s229, s230, s231, s232, s233, s234, s235, s236, s237, s238, s239, s240, s241, s242, s243, s244, s245, s246, s247, s248, s249, s250, s251, s252, s253, s254, s255, s256, s257, s258, s259, s260, s261, s262, s263, s264, s265, s266, s267, s268, s269, s270, s271, s272, s273, s274, s275, s276, s277, s278, s279, s280, s281, s282, s283, s284, s285, s286, s287, s288, s289, s290, s291, s292, s293, s294, s295, s296], defers := [] } WA := by
  have HQ := PLift.up h
  clear h
  simp only [codeIn, Tryz.f5, codeOf, Option.bind_some, Option.getD_some, Nat.beq, cond_true, cond_false]
  have TP := Lib.hid TP0
  have HBW := Lib.hid TP0.has
  have OF' := Lib.hid OF
  have SC' := Lib.hid SC
  have FC' := Lib.hid fcs
  have SS' := Lib.hid SS
  have ML' := Lib.hid ML
  have WY' := Lib.hid WY
  have BW' := Lib.hid BW
  have HBB := Lib.hid hbw
  have HP := Lib.hid hp
  have XX := Lib.hid X
  have LS := Lib.hid hls
  have lF := hls.2.2.1
  clear TP0 OF SC fcs SS ML WY BW hbw hp X hls
  go_loopw [92] (fun s wi => ∃ j : Nat, j ≤ 3 ∧ s = .int .i64 j ∧ Mv b n WA wi) (fun s _ => 3 - (intOf s).toNat)
  case atStart => exact ⟨0, Nat.zero_le _, rfl, Mv.refl TP.out⟩
  case round =>
    obtain ⟨j, hj, rfl, hm⟩ := hrel
    have M0 := Lib.hid hm
    clear hm
    by_cases hl : j < 3
    · have j3 : (j : Int) < 3 := by omega
      obtain ⟨al, l, cl, hc, hs, fl⟩ := XX.out wr M0.out j hl
      have hh := has_of_cell hc
      have CL := Lib.hid hs
      clear hs
      go_upto_region 9 with fail
      clear hc hh
      go_cut [103] from 93 to 295 (fun s103 wx => ∃ B : Bool, s103 = .bool B ∧ Mv b n WA wx)
      case first =>
        go_wp2_with fail
        refine (refCheck_any l al cl wr (CL.out wr M0.out) fl).mono ?_
        rintro e w1 ⟨rfl, hg1⟩
        have M1 := Lib.hid (M0.out.gr hg1)
        clear hg1 M0
        by_cases hc : cchk l = 0
        · have ST := Lib.hid (states18_any l al cl w1 (CL.out w1 M1.out) hc)
          have PR := (cchk_zero hc).2.2.1
          rw [hc]
          go_wp2_with fail
          refine ST.out.mono ?_
          rintro e w2 ⟨rfl, hg2⟩
          have M2 := Lib.hid (M1.out.gr hg2)
          clear hg2 M1 ST
          go_wp2_with fail
          go_meet
          exact ⟨_, rfl, M2.out⟩
        · obtain ⟨ce, hce⟩ : ∃ ce, cchk l = ce := ⟨_, rfl⟩
          rw [hce] at hc ⊢
          have d0 : (ce == 0) = false := by simp [hc]
          go_wp2_with fail
          go_meet
          exact ⟨_, rfl, M1.out⟩
      case rest =>
      obtain ⟨B, rfl, hm1⟩ := hcut
      have M1 := Lib.hid hm1
      clear hm1 M0
      obtain ⟨w1, rfl⟩ : ∃ wo : World, wo = wc := ⟨_, rfl⟩
      cases B
      · obtain ⟨W3, hW3⟩ : ∃ W3 : World, Hid (W3 = w1.alloc (.cells #[.slice aM m.length cM, .slice aW way.length cW] 24)) := ⟨_, Lib.hid rfl⟩
        have G3 : Hid (Gr w1 W3) := Lib.hid (by rw [hW3.out]; exact (Gr.refl _).alloc _)
        have R3 : Hid (Row W3 w1.heap.size 24 [.slice aM m.length cM, .slice aW way.length cW]) := Lib.hid (by rw [hW3.out]; exact Row.new _ _ _)
        have M3 := Lib.hid (M1.out.gr G3.out)
        have ZB : Hid (b < w1.heap.size) := Lib.hid (by have := M1.out.size; have := HBW.out; omega)
        go_wp2_with fail
        rw [← hW3.out]
        refine wp_code_eq (c := codeIn 2 Tryz.f5) (by kernel_rfl) (raD (gz := w1.heap.size) (WA := W3) (M3.out.tp TP.out) (fun W hW => CL.out W (M3.out.trans HBW.out hW)) fl (fun W hW => OF'.out W (M3.out.trans HBW.out hW)) (fun W hW => SC'.out W (M3.out.trans HBW.out hW)) hcs FC'.out (fun W hW => SS'.out W (M3.out.trans HBW.out hW)) LS.out (fun W hW k hk => ?_) ?_)
        · have r := hW.row R3.out (by have := ZB.out; omega)
          have c0 := r.cell 0 (by simp)
          have c1 := r.cell 1 (by simp)
          obtain rfl | rfl : k = 0 ∨ k = 1 := by omega
          · exact ⟨aM, m, cM, c0, fun W' hW' => ML'.out W' (M3.out.trans HBW.out hW'), fm⟩
          · exact ⟨aW, way, cW, c1, fun W' hW' => WY'.out W' (M3.out.trans HBW.out hW'), fw⟩
        intro t14 t25 t27 t28 t29 t30 t31 t32 t33 t34 t35 t37 t38 t39 t40 t41 t108 t109 t110 t111 t112 t113 t114 t115 t116 t117 t118 t119 t120 t121 t122 t123 t124 t125 t126 t127 t128 t129 t130 t131 t132 t133 t134 t135 t136 t137 t138 t139 t140 t141 t142 t143 t144 t145 t146 t147 t148 t149 t150 t151 t152 t153 t154 t155 t156 t157 t158 t159 t160 t161 t162 t163 t164 t165 t166 t167 t168 t169 t170 t171 t172 t173 t174 t175 t176 t177 t178 t179 t180 t181 t182 t183 t184 t185 t186 t187 t188 t189 t190 t191 t192 t193 t194 t195 t196 t197 t198 t199 t200 t201 t202 t203 t204 t205 t206 t207 t208 t209 t210 t211 t212 t213 t214 t215 t216 t217 t218 t219 t220 t221 t222 t223 t224 t225 t226 t227 t228 t229 t230 t231 t232 t233 t234 t235 t236 t237 t238 t239 t240 t241 t242 t243 t244 t245 t246 t247 t248 t249 t250 t251 t252 t253 t254 t255 w4 hmx
        have M4 := Lib.hid (M3.out.trans HBW.out hmx)
        have BX := Lib.hid (M4.out.row BW'.out HBB.out)
        clear hmx R3 hW3 M3 G3
        go_upto_region 34 with fail
        refine ra7 (M4.out.tp TP.out) BX.out HBB.out ?_
        intro t256 t257 t258 t259 t260 t261 t262 t263 t264 t265 t266 t267 w5 g hm5 e1 e2 e3 hq
        subst e1 e2 e3
        simp only [ra7A]
        have M5 := Lib.hid (M4.out.trans HBW.out hm5)
        have WT := Lib.hid (hq.read HP.out)
        clear hm5 hq BX M4
        go_wp2_with fail
        refine wp_code_eq (c := codeIn 8 Tryz.f5) (by kernel_rfl) (raE (gv := g) (CL.out w5 M5.out) fl (SS'.out w5 M5.out).2.2.1 lF WT.out ?_)
        intro t14 t43 t44 t45 t46 t47 t267 t268 t269 t270 t271 t272 t273 t274 t275 t276 t277 t278 t279 t280 t281 t282 t283 t284 t285 t286 t287 t288 t289 t290 t291 t292 t293 t294 wx hgx
        have MX := Lib.hid (M5.out.gr hgx)
        clear hgx M5 WT
        go_wp2_with fail
        go_roundw
        case rel => exact ⟨j + 1, by omega, by simp, MX.out⟩
        case measure => simp [intOf]; omega
      · go_wp2_with fail
        go_roundw
        case rel => exact ⟨j + 1, by omega, by simp, M1.out⟩
        case measure => simp [intOf]; omega
    · obtain rfl : j = 3 := by omega
      go_wp2_with fail
      exact HQ.down _ _ _ _ _ _ _ _ _ _ _ _ _ _ _ _ _ _ _ _ _ _ _ _ _ _ _ _ _ _ _ _ _ _ _ _ _ _ _ _ _ _ _ _ _ _ _ _ _ _ _ _ _ _ _ _ _ _ _ _ _ _ _ _ _ _ _ _ _ _ _ _ _ _ _ _ _ _ _ _ _ _ _ _ _ _ _ _ _ _ _ _ _ _ _ _ _ _ _ _ _ _ _ _ _ _ _ _ _ _ _ _ _ _ _ _ _ _ _ _ _ _ _ _ _ _ _ _ _ _ _ _ _ _ _ _ _ _ _ _ _ _ _ _ _ _ _ _ _ _ _ _ _ _ _ _ _ _ _ _ _ _ _ _ _ _ _ _ _ _ _ _ _ _ _ _ _ _ _ _ _ _ _ _ _ _ _ _ _ _ _ _ _ _ _ _ _ _ _ _ _ _ _ _ _ _ _ _ _ _ _ _ _ _ _ _ _ _ _ _ _ _ _ _ _ _ _ M0.out
theorem RowIn.gr {w w' : World} {a : Option Addr} {len cap : Nat} {zs : List Int} (h : RowIn w a len cap zs) (hg : Gr w w') : RowIn w' a len cap zs := by
  rcases h with h | ⟨x, h0, h1, h2, h3, h4, h5⟩
  · exact .inl h
  · exact .inr ⟨x, h0, h1, h2, h3, fun i hi => cell_gr hg (h4 i hi), h5⟩
theorem hi_ok {l : List Clk} (h : cchk l = 0) : ∀ x ∈ l, 0 ≤ x.high ∧ x.high ≤ 4000000000 := by
  intro x hx
  obtain ⟨k, hk, rfl⟩ := List.getElem_of_mem hx
  obtain ⟨_, _, _, hl⟩ := (cchk_zero h).2.1 k hk
  unfold LimOk at hl
  omega
theorem calmOnesL_any (w : World) (b len most : Nat) (ht : Tp w b len) (hm : 1 ≤ most) (hm1 : most ≤ 4096) :
    Calls Tryz.prog 28 #[.pointer (some ⟨b, 0, none⟩), .int .i64 most] w fun e w' =>
      ∃ (ts : List CT) (ms : List Lmt) (f t : List Int) (g c : Nat) (am : Option Addr) (cm : Nat) (af at' : Option Addr) (cf ct : Nat) (ok : Bool),
        e = .returned (.tuple #[.slice (some ⟨g, 0, none⟩) ts.length c, .slice am ms.length cm, .slice af f.length cf, .slice at' t.length ct, .bool ok]) ∧
        w'.ownsRow w.heap.size 79 5 (.slice (some ⟨g, 0, none⟩) ts.length c) ts.length (ts.flatMap encC) ∧ ChRows w.heap.size w' ts ∧ cchk (clks ts) = 0 ∧ 1 ≤ ts.length ∧ ts.length ≤ 8 ∧
        w'.ownsRow w.heap.size 35 3 (.slice am ms.length cm) ms.length (ms.flatMap encM) ∧ LsOk (clks ts) ms ∧
        Own1 w.heap.size w' 3 (nums f) af ∧ SetOk (clks ts) f ∧ Own1 w.heap.size w' 3 (nums t) at' ∧ SetOk (clks ts) t ∧ Mv b len w w' := by
  refine (calmOnes_any w b len most ht hm hm1).mono ?_
  rintro e w2 ⟨ts, ms, f, t, g, c, vm, af, at', cf, ct, ok, rfl, ho, hr, hck, hge, hle, hom, hls, hof, hsf, hot, hst, hcal, hm2⟩
  have hcl : (clks ts).length = ts.length := clks_len ts
  obtain ⟨am, cm, rfl, sm2⟩ := lmts_of_owns hom (by rw [hcl]; omega) hls
  exact ⟨ts, ms, f, t, g, c, am, cm, af, at', cf, ct, ok, by rw [hsf.1, hst.1, hcl], ho, hr, hck, hge, hle, hom, hls, hof, hsf, hot, hst, hm2⟩
theorem answers18_walk (a : Option Addr) (len cap : Nat) (zs : List Int) (aR : Option Addr) (raw : List Clk) (cR : Nat) (aA : Option Addr) (la : List Int) (cA : Nat) (aB : Option Addr) (lb : List Int) (cB : Nat) (aM : Option Addr) (m : List Lmt) (cM : Nat) (p : Wri) (aC : Option Addr) (cs : List (List Int)) (cC : Nat) (w : World) (h : RowIn w a len cap zs)
    (hR : SlOf 5 RClk w aR raw) (fR : Fit raw.length) (hA : SlOf 1 RI w aA la) (fA : Fit la.length) (hB : SlOf 1 RI w aB lb) (fB : Fit lb.length) (hM : SlOf 3 RLmt w aM m) (fM : Fit m.length) (hp : WriWd p) (hC : SlOf 1 RSetW w aC cs) (fC : Fit cs.length) (hoff : OffV w) :
    Calls Tryz.prog 5 #[.slice a len cap, .slice aR raw.length cR, .slice aA la.length cA, .slice aB lb.length cB, .slice aM m.length cM, .agg #[.int .i64 p.kind, .int .i64 p.unit, .int .i64 p.value], .slice aC cs.length cC] w (Grows w (.bool true)) := by
  have H := Lib.hid h
  have HO := Lib.hid hoff
  have HR := Lib.hid hR
  have HM := Lib.hid hM
  have HAB := Lib.hid (And.intro hA hB)
  have HC := Lib.hid (RSetW.sets hC)
  have FCS := Lib.hid (RSetW.fit hC)
  have HP := Lib.hid hp
  have FM := fM
  have FA := fA
  have FB := fB
  have FC := fC
  unfold Fit at FM FA FB FC
  obtain ⟨W0, hW0⟩ : ∃ W0 : World, Hid (W0 = w.alloc (.cells #[.int .i64 p.kind, .int .i64 p.unit, .int .i64 p.value] 65)) := ⟨_, Lib.hid rfl⟩
  have G0 : Hid (Gr w W0) := Lib.hid (by rw [hW0.out]; exact (Gr.refl _).alloc _)
  have BX : Hid (Row W0 w.heap.size 65 [.int .i64 p.kind, .int .i64 p.unit, .int .i64 p.value]) := Lib.hid (by rw [hW0.out]; exact Row.new _ _ _)
  have BH : Hid (w.heap.size < W0.heap.size) := Lib.hid BX.out.has
  have AW := Lib.hid (fun W (hW : Gr w W) => awake_any W (HO.out.gr hW))
  have SM := Lib.hid (smallC_any raw aR cR W0 (HR.out.gr RClk.mono G0.out) fR)
  clear h hoff hR hA hB hM hC hp
  go_enter Tryz.func5, Tryz.ntmps5
  go_upto_region 1 with fail
  rw [← hW0.out]
  obtain ⟨bx, hbx⟩ : ∃ bx : Nat, Hid (w.heap.size = bx) := ⟨_, Lib.hid rfl⟩
  rw [hbx.out] at BX BH ⊢
  go_cut [70] (fun s70 wx => ∃ B : Bool, s70 = .bool B ∧ Gr W0 wx ∧ (B = false → m.length ≤ 40 ∧ cs.length ≤ 60 ∧ la.length ≤ 40 ∧ lb.length ≤ 40))
  case first =>
    by_cases hm40 : 40 < m.length
    · have f0 : decide ((40 : Int) < (m.length : Int)) = true := decide_eq_true (by omega)
      go_wp2_with fail
      refine SM.out.mono ?_
      rintro e w1 ⟨q1, rfl, hg1⟩
      have G1 := Lib.hid hg1
      clear hg1
      cases q1
      · go_wp2_with fail
        go_meet
        exact ⟨true, rfl, G1.out, fun q => by cases q⟩
      · go_wp2_with fail
        go_meet
        exact ⟨true, rfl, G1.out, fun q => by cases q⟩
    have f0 : decide ((40 : Int) < (m.length : Int)) = false := decide_eq_false (by omega)
    by_cases hc60 : 60 < cs.length
    · have f1 : decide ((60 : Int) < (cs.length : Int)) = true := decide_eq_true (by omega)
      go_wp2_with fail
      refine SM.out.mono ?_
      rintro e w1 ⟨q1, rfl, hg1⟩
      have G1 := Lib.hid hg1
      clear hg1
      cases q1
      · go_wp2_with fail
        go_meet
        exact ⟨true, rfl, G1.out, fun q => by cases q⟩
      · go_wp2_with fail
        go_meet
        exact ⟨true, rfl, G1.out, fun q => by cases q⟩
    have f1 : decide ((60 : Int) < (cs.length : Int)) = false := decide_eq_false (by omega)
    by_cases ha40 : 40 < la.length
    · have f2 : decide ((40 : Int) < (la.length : Int)) = true := decide_eq_true (by omega)
      go_wp2_with fail
      refine SM.out.mono ?_
      rintro e w1 ⟨q1, rfl, hg1⟩
      have G1 := Lib.hid hg1
      clear hg1
      cases q1
      · go_wp2_with fail
        go_meet
        exact ⟨true, rfl, G1.out, fun q => by cases q⟩
      · go_wp2_with fail
        go_meet
        exact ⟨true, rfl, G1.out, fun q => by cases q⟩
    have f2 : decide ((40 : Int) < (la.length : Int)) = false := decide_eq_false (by omega)
    by_cases hb40 : 40 < lb.length
    · have f3 : decide ((40 : Int) < (lb.length : Int)) = true := decide_eq_true (by omega)
      go_wp2_with fail
      refine SM.out.mono ?_
      rintro e w1 ⟨q1, rfl, hg1⟩
      have G1 := Lib.hid hg1
      clear hg1
      cases q1
      · go_wp2_with fail
        go_meet
        exact ⟨true, rfl, G1.out, fun q => by cases q⟩
      · go_wp2_with fail
        go_meet
        exact ⟨true, rfl, G1.out, fun q => by cases q⟩
    have f3 : decide ((40 : Int) < (lb.length : Int)) = false := decide_eq_false (by omega)
    go_wp2_with fail
    refine SM.out.mono ?_
    rintro e w1 ⟨q1, rfl, hg1⟩
    have G1 := Lib.hid hg1
    clear hg1
    cases q1
    · go_wp2_with fail
      go_meet
      exact ⟨true, rfl, G1.out, fun q => by cases q⟩
    · go_wp2_with fail
      go_meet
      exact ⟨false, rfl, G1.out, fun _ => ⟨by omega, by omega, by omega, by omega⟩⟩
  case rest =>
  obtain ⟨B, rfl, hgc, hlen⟩ := hcut
  have G1 := Lib.hid (G0.out.trans hgc)
  have B1 := Lib.hid (BX.out.gr hgc)
  obtain ⟨w1, rfl⟩ : ∃ wo : World, wo = wc := ⟨_, rfl⟩
  have BH1 : Hid (bx < w1.heap.size) := Lib.hid (by have := hgc.size; have := BH.out; omega)
  clear hgc SM BX BH hW0 G0
  cases B with
  | true =>
    clear HR HM HAB HC H hlen
    go_wp2_with fail
    refine (AW.out w1 G1.out).mono ?_
    rintro e wz ⟨rfl, hg2⟩
    have GZ := Lib.hid (G1.out.trans hg2)
    clear hg2
    go_wp2_with fail
    go_ret
    exact ⟨rfl, GZ.out⟩
  | false =>
  obtain ⟨l1, l2, l3, l4⟩ := hlen rfl
  clear hlen
  go_wp2_with fail
  refine (newTape_any w1 a len cap zs (RowIn.gr H.out G1.out)).mono ?_
  rintro e w3 ⟨b, n, rfl, T, hg, hb, _⟩
  have HT : Hid (Tp w3 b n) := Lib.hid ⟨_, T⟩
  have BB := Lib.hid T.has
  have G3 := Lib.hid (G1.out.trans hg)
  have B3 := Lib.hid (B1.out.gr hg)
  have LB : Hid (w.heap.size ≤ b) := Lib.hid (by have := G1.out.size; omega)
  have NB : Hid (bx ≠ b) := Lib.hid (by have := BH1.out; omega)
  clear T hg hb B1 BH1
  go_wp2_with fail
  refine (calmOnesL_any w3 b n 48 HT.out (by omega) (by omega)).mono ?_
  rintro e w4 ⟨ts, ms, f, t, g, c, am, cm, af, at', cf, ct, ok, rfl, ho, hr, hck, hge, hle, hom, hls, hof, hsf, hot, hst, hm4⟩
  have hcl : (clks ts).length = ts.length := clks_len ts
  have HCL := Lib.hid hcl
  have T4 := Lib.hid (hm4.tp HT.out)
  have ZR : Hid (b < w4.heap.size) := Lib.hid (hm4.tp HT.out).has
  have G4 := Lib.hid (fun W (hW : Mv b n w4 W) => (Mv.gr_low (Mv.gr_low G3.out LB.out hm4) LB.out hW : Gr w W))
  have CL := Lib.hid (fun W (hW : Mv b n w4 W) => (by obtain ⟨_, _, e, _, sl⟩ := clks_at (hW.owns ho BB.out) (fun t ht => (hr t ht).mv hW BB.out) (by omega); cases e; exact sl : SlOf 5 RClk W (some ⟨g, 0, none⟩) (clks ts)))
  have LM := Lib.hid (fun W (hW : Mv b n w4 W) => (by obtain ⟨_, _, e, sm⟩ := lmts_of_owns (hW.owns hom BB.out) (by rw [hcl]; omega) hls; cases e; exact sm : SlOf 3 RLmt W am ms))
  have SFT := Lib.hid (fun W (hW : Mv b n w4 W) => And.intro ((hW.own1 hof BB.out).slI (setOk_wide hck hsf)) ((hW.own1 hot BB.out).slI (setOk_wide hck hst)))
  have B4 := Lib.hid (hm4.row B3.out NB.out)
  have CK := Lib.hid hck
  have lf : f.length ≤ 8 := by rw [hsf.1, hcl]; omega
  have lt : t.length ≤ 8 := by rw [hst.1, hcl]; omega
  have lms : ms.length ≤ 32 := hls.1
  have CW : Hid (∀ t ∈ ts, t.c.parents.length ≤ 8 ∧ t.c.choices.length ≤ 8) := Lib.hid (fun t ht => ⟨(hr t ht).2.2.2.2.1, (hr t ht).2.2.2.2.2.1⟩)
  have SA := Lib.hid (setting_any w4 b n w3.heap.size c (some ⟨g, 0, none⟩) ts (hm4.tp HT.out) BB.out ho hr (by omega) (allOk_cho (cchk_zero hck).2.1))
  clear ho hr hck hom hls hof hsf hot hst hm4 hcl B3
  go_wp2_with fail
  refine SA.out.mono ?_
  rintro e w5 ⟨x, vx, rfl, hox, hsx, hm5⟩
  rw [← hsx.1] at hox
  obtain ⟨ax, cx, rfl, hx0⟩ := owns_slI hox (setOk_wide CK.out hsx)
  have M5 := Lib.hid hm5
  have lx : x.length ≤ 8 := by rw [hsx.1, HCL.out]; omega
  have SX := Lib.hid (fun W (hW : Mv b n w5 W) => (by obtain ⟨_, _, e, sl⟩ := owns_slI (hW.owns hox ZR.out) (setOk_wide CK.out hsx); cases e; exact sl : SlOf 1 RI W ax x))
  have ZR5 : Hid (b < w5.heap.size) := Lib.hid (by have := hm5.size; have := ZR.out; omega)
  clear hox hsx hm5 hx0 SA
  have BC := Lib.hid (bentC_any w5 b n c (some ⟨g, 0, none⟩) (clks ts) (M5.out.tp T4.out) (CL.out w5 M5.out) (by rw [HCL.out]; omega) (by rw [HCL.out]; omega) (fun x hx => by
    obtain ⟨t, ht, rfl⟩ := List.mem_map.1 hx
    have := CW.out t ht
    omega) (hi_ok CK.out))
  rw [HCL.out] at BC
  go_wp2_with fail
  refine BC.out.mono ?_
  rintro e w8 ⟨us, aU, cU, rfl, hul, hus⟩
  have K8 := Lib.hid hus
  have M58 := Lib.hid hus.mv
  have M8 := Lib.hid (M5.out.trans ZR.out hus.mv)
  clear hus BC
  obtain ⟨W9, hW9⟩ : ∃ W9 : World, Hid (W9 = w8.alloc (.cells #[.slice aR raw.length cR, .slice (some ⟨g, 0, none⟩) ts.length c, .slice aU us.length cU] 23)) := ⟨_, Lib.hid rfl⟩
  have G9 : Hid (Gr w8 W9) := Lib.hid (by rw [hW9.out]; exact (Gr.refl _).alloc _)
  have R9 : Hid (Row W9 w8.heap.size 23 [.slice aR raw.length cR, .slice (some ⟨g, 0, none⟩) ts.length c, .slice aU us.length cU]) := Lib.hid (by rw [hW9.out]; exact Row.new _ _ _)
  have M9 := Lib.hid (M8.out.gr G9.out)
  have M59 := Lib.hid (M58.out.gr G9.out)
  have B9 := Lib.hid (M9.out.row B4.out NB.out)
  have GW := Lib.hid (fun W (hW : Mv b n W9 W) => G4.out W (M9.out.trans ZR.out hW))
  go_wp2_with fail
  rw [← hW9.out]
  refine wp_code_eq (c := codeIn 0 Tryz.f5) (by kernel_rfl) (raF (gx := w8.heap.size) (WA := W9) (p := p) (lf := f) (lt := t) (lo := x) (M9.out.tp T4.out) (fun W hW => HO.out.gr (GW.out W hW)) (fun W hW => HC.out.gr RSet.mono (GW.out W hW)) (by omega) FCS.out (fun W hW => ⟨HAB.out.1.giI (GW.out W hW), HAB.out.2.giI (GW.out W hW), (SFT.out W (M9.out.trans ZR.out hW)).1, (SFT.out W (M9.out.trans ZR.out hW)).2, SX.out W (M59.out.trans ZR5.out hW)⟩) ⟨by omega, by omega, by omega, by omega, by omega⟩ (fun W hW => HM.out.gr RLmt.mono (GW.out W hW)) fM (fun W hW => LM.out W (M9.out.trans ZR.out hW)) (by unfold Fit; omega) B9.out NB.out HP.out (fun W hW k hk => ?_) ?_)
  · have zb : b < w8.heap.size := by have := M8.out.size; have := ZR.out; omega
    have r := hW.row R9.out (by omega)
    have c0 := r.cell 0 (by simp)
    have c1 := r.cell 1 (by simp)
    have c2 := r.cell 2 (by simp)
    obtain rfl | rfl | rfl : k = 0 ∨ k = 1 ∨ k = 2 := by omega
    · exact ⟨aR, raw, cR, c0, fun W' hW' => HR.out.gr RClk.mono (GW.out W' hW'), fR⟩
    · exact ⟨some ⟨g, 0, none⟩, clks ts, c, by rw [HCL.out]; exact c1, fun W' hW' => CL.out W' (M9.out.trans ZR.out hW'), by rw [HCL.out]; unfold Fit; omega⟩
    · have K9 : KPl b n w5 us aU cU W9 := K8.out.mvd ZR5.out (.of_gr (M8.out.tp T4.out) G9.out)
      exact ⟨aU, us.map (·.c), cU, by rw [List.length_map]; exact c2, fun W' hW' => (K9.mvd ZR5.out hW').read, by rw [List.length_map]; unfold Fit; omega⟩
  intro t14 t23 t25 t27 t28 t29 t30 t31 t32 t33 t34 t35 t37 t38 t39 t40 t41 t43 t44 t45 t46 t47 t92 t93 t94 t95 t96 t97 t98 t99 t100 t101 t102 t103 t104 t105 t106 t107 t108 t109 t110 t111 t112 t113 t114 t115 t116 t117 t118 t119 t120 t121 t122 t123 t124 t125 t126 t127 t128 t129 t130 t131 t132 t133 t134 t135 t136 t137 t138 t139 t140 t141 t142 t143 t144 t145 t146 t147 t148 t149 t150 t151 t152 t153 t154 t155 t156 t157 t158 t159 t160 t161 t162 t163 t164 t165 t166 t167 t168 t169 t170 t171 t172 t173 t174 t175 t176 t177 t178 t179 t180 t181 t182 t183 t184 t185 t186 t187 t188 t189 t190 t191 t192 t193 t194 t195 t196 t197 t198 t199 t200 t201 t202 t203 t204 t205 t206 t207 t208 t209 t210 t211 t212 t213 t214 t215 t216 t217 t218 t219 t220 t221 t222 t223 t224 t225 t226 t227 t228 t229 t230 t231 t232 t233 t234 t235 t236 t237 t238 t239 t240 t241 t242 t243 t244 t245 t246 t247 t248 t249 t250 t251 t252 t253 t254 t255 t256 t257 t258 t259 t260 t261 t262 t263 t264 t265 t266 t267 t268 t269 t270 t271 t272 t273 t274 t275 t276 t277 t278 t279 t280 t281 t282 t283 t284 t285 t286 t287 t288 t289 t290 t291 t292 t293 t294 t295 wx hmx
  have GX := Lib.hid (GW.out wx hmx)
  clear hmx
  go_wp2_with fail
  refine (AW.out wx GX.out).mono ?_
  rintro e w10 ⟨rfl, hg10⟩
  have G10 := Lib.hid (GX.out.trans hg10)
  clear hg10
  go_wp2_with fail
  go_ret
  exact ⟨rfl, G10.out⟩
end Go.Proofs.YtenehghpmnajpaaGreatDoor
