/- Lemmas and contracts for the proof of TuningAnswers (several texts in one, printed by wip/tools/pack.py): TaA. -/
import Derived.Test.YtenehghpmnajpaaGreatDoorTa7pn
import Derived.Test.YtenehghpmnajpaaGreatDoorTa7pt
import Derived.Test.YtenehghpmnajpaaGreatDoorTa7ps
import Derived.Test.YtenehghpmnajpaaGreatDoorTa7pu
import Derived.Test.YtenehghpmnajpaaGreatDoorTa7pw
import Derived.Test.YtenehghpmnajpaaGreatDoorTa7px
import Derived.Test.YtenehghpmnajpaaGreatDoorTa7py
set_option linter.unusedVariables false
set_option linter.unusedSimpArgs false
namespace Go.Proofs.YtenehghpmnajpaaGreatDoor
open Go.RowKit
open Classical
theorem RowIn.gr {w w' : World} {a : Option Addr} {len cap : Nat} {zs : List Int} (h : RowIn w a len cap zs) (hg : Gr w w') : RowIn w' a len cap zs := by
  rcases h with h | ⟨x, h0, h1, h2, h3, h4, h5⟩
  · exact .inl h
  · exact .inr ⟨x, h0, h1, h2, h3, fun i hi => cell_gr hg (h4 i hi), h5⟩
theorem hi_ok {l : List Clk} (h : cchk l = 0) : ∀ x ∈ l, 0 ≤ x.high ∧ x.high ≤ 4000000000 := by
  intro x hx
  obtain ⟨k, hk, rfl⟩ := List.getElem_of_mem hx
  obtain ⟨_, _, _, hl⟩ := (cchk_zero h).2.1 k hk
  unfold LimOk at hl
  omega
set_option maxRecDepth 100000 in
set_option maxHeartbeats 4000000 in
theorem answers17_walk (a : Option Addr) (len cap : Nat) (zs : List Int) (aR : Option Addr) (raw : List Clk) (cR : Nat) (aM : Option Addr) (m : List Lmt) (cM : Nat) (aB : Option Addr) (bs : List Brn) (cB : Nat) (w : World) (h : RowIn w a len cap zs)
    (hR : SlOf 5 RClk w aR raw) (fR : Fit raw.length) (hM : SlOf 3 RLmt w aM m) (fM : Fit m.length) (hB : SlOf 3 RBrn w aB bs) (fB : Fit bs.length) (hoff : OffV w) :
    Calls Tryz.prog 3 #[.slice a len cap, .slice aR raw.length cR, .slice aM m.length cM, .slice aB bs.length cB] w (Grows w (.bool true)) := by
  have H := Lib.hid h
  have HO := Lib.hid hoff
  have HR := Lib.hid hR
  have HM := Lib.hid hM
  have HB := Lib.hid hB
  have FM := fM
  unfold Fit at FM
  clear h hoff hR hM hB
  go_enter Tryz.func3, Tryz.ntmps3
  go_wp2_with fail
  refine (smallC_any raw aR cR w HR.out fR).mono ?_
  rintro e w1 ⟨q1, rfl, hg1⟩
  have G1 := Lib.hid hg1
  have AW := Lib.hid (fun W (hW : Gr w W) => awake17_any W (HO.out.gr hW))
  clear hg1
  cases q1
  · clear H HR HM HB
    go_wp2_with fail
    refine (AW.out w1 G1.out).mono ?_
    rintro e w2 ⟨rfl, hg2⟩
    have G2 := Lib.hid (G1.out.trans hg2)
    clear hg2
    go_wp2_with fail
    go_ret
    exact ⟨rfl, G2.out⟩
  by_cases hm40 : 40 < m.length
  · have f0 : decide ((40 : Int) < (m.length : Int)) = true := decide_eq_true (by omega)
    clear H HR HM HB
    go_wp2_with fail
    refine (AW.out w1 G1.out).mono ?_
    rintro e w2 ⟨rfl, hg2⟩
    have G2 := Lib.hid (G1.out.trans hg2)
    clear hg2
    go_wp2_with fail
    go_ret
    exact ⟨rfl, G2.out⟩
  have f0 : decide ((40 : Int) < (m.length : Int)) = false := decide_eq_false (by omega)
  have f1 : m.length ≤ 40 := by omega
  clear hm40
  go_wp2_with fail
  refine (smallB_any bs aB cB w1 (HB.out.gr RBrn.mono G1.out) fB).mono ?_
  rintro e w2 ⟨q2, rfl, hg2, hsb⟩
  have G2 := Lib.hid (G1.out.trans hg2)
  clear hg2
  cases q2
  · clear H HR HM HB hsb
    go_wp2_with fail
    refine (AW.out w2 G2.out).mono ?_
    rintro e w3 ⟨rfl, hg2⟩
    have G3 := Lib.hid (G2.out.trans hg2)
    clear hg2
    go_wp2_with fail
    go_ret
    exact ⟨rfl, G3.out⟩
  obtain ⟨sb1, sb2⟩ := hsb rfl
  have SB := Lib.hid sb2
  clear sb2
  go_wp2_with fail
  refine (newTape_any w2 a len cap zs (RowIn.gr H.out G2.out)).mono ?_
  rintro e w3 ⟨b, n, rfl, T, hg, hb, _⟩
  have HT : Hid (Tp w3 b n) := Lib.hid ⟨_, T⟩
  have BB := Lib.hid T.has
  have G3 := Lib.hid (G2.out.trans hg)
  have LB : Hid (w.heap.size ≤ b) := Lib.hid (by have := G2.out.size; omega)
  clear T hg hb
  go_wp2_with fail
  refine (clocks_any w3 b n 7 128 HT.out (by omega) (by omega) (by omega) (by omega)).mono ?_
  rintro e w4 ⟨ts, v, rfl, ho, hr, hck, hge, hle, hpr, hm4⟩
  obtain ⟨g, c, rfl, hnc, hbg, _⟩ := owns_cell ho (by omega)
  have T4 := Lib.hid (hm4.tp HT.out)
  have LM := Lib.hid (fun W (hW : Mv b n w4 W) k (hk : k ≤ 6) => limits_any W b n w3.heap.size k c (some ⟨g, 0, none⟩) ts (hW.tp (hm4.tp HT.out)) BB.out (hW.owns ho BB.out) (fun t ht => (hr t ht).mv hW BB.out) hck hge (by omega) hk)
  have CL := Lib.hid (fun W (hW : Mv b n w4 W) => (by obtain ⟨_, _, e, _, sl⟩ := clks_at (hW.owns ho BB.out) (fun t ht => (hr t ht).mv hW BB.out) (by omega); cases e; exact sl : SlOf 5 RClk W (some ⟨g, 0, none⟩) (clks ts)))
  have G4 := Lib.hid (fun W (hW : Mv b n w4 W) => (Mv.gr_low (Mv.gr_low G3.out LB.out hm4) LB.out hW : Gr w W))
  have CK := Lib.hid hck
  have HCL : Hid ((clks ts).length = ts.length) := Lib.hid (clks_len ts)
  have HC1 := Lib.hid (allOk_cho (cchk_zero hck).2.1)
  have HP := Lib.hid hpr
  have ZR : Hid (b < w4.heap.size) := Lib.hid (hm4.tp HT.out).has
  have CW : Hid (∀ t ∈ ts, t.c.parents.length ≤ 8 ∧ t.c.choices.length ≤ 8) := Lib.hid (fun t ht => ⟨(hr t ht).2.2.2.2.1, (hr t ht).2.2.2.2.2.1⟩)
  clear ho hr hck hpr hm4 hbg hnc H
  go_wp2_with fail
  refine (LM.out w4 (.of_gr T4.out (Gr.refl _)) 4 (by omega)).mono ?_
  rintro e w5 ⟨ns, v, rfl, ho, hnl, hnk, hm5⟩
  obtain ⟨an, cn, rfl⟩ := owns_slice ho
  have ON := Lib.hid ho
  have M5 := Lib.hid hm5
  have NK := Lib.hid hnk
  clear ho hnk hm5
  have L5 : Hid (LSt b n w4 an cn ns.length w5) := Lib.hid ⟨ns, rfl, fun x hx => by
    obtain ⟨j, hj, rfl⟩ := List.getElem_of_mem hx
    obtain ⟨q1, q2, q3, q4⟩ := NK.out j hj
    have := HCL.out; exact ⟨by unfold Wide; omega, by unfold Wide; omega, by unfold Wide; omega⟩, ON.out, M5.out⟩
  have N4 : Hid (ns.length ≤ 4) := Lib.hid hnl
  clear ON M5 NK
  go_upto_region 6 with fail
  go_cut [60] (fun s60 wx => ∃ B : Bool, s60 = .bool B ∧ (B = true → 0 < ns.length) ∧ LSt b n w4 an cn ns.length wx)
  case first =>
    go_wp2_with fail
    refine (nM_any w5 b n 2 (L5.out.mv.tp T4.out) (by omega) (by omega)).mono ?_
    rintro e w6 ⟨k, rfl, ⟨k0, k1⟩, hm6⟩
    have L6 := Lib.hid (L5.out.mvd ZR.out hm6)
    clear hm6
    have hk : k = 0 ∨ k = 1 := by omega
    clear k0 k1
    rcases hk with rfl | rfl
    · by_cases hn1 : 0 < ns.length
      · have hd : decide (0 < ns.length) = true := decide_eq_true hn1
        go_wp2_with fail
        go_meet
        exact ⟨true, rfl, fun _ => hn1, L6.out⟩
      · have hd2 : decide (0 < ns.length) = false := decide_eq_false (by omega)
        clear hn1
        go_wp2_with fail
        go_meet
        exact ⟨false, rfl, fun h => by simp at h, L6.out⟩
    · go_wp2_with fail
      go_meet
      exact ⟨false, rfl, fun h => by simp at h, L6.out⟩
  case rest =>
  obtain ⟨B, rfl, hB60, hL6⟩ := hcut
  have L6 := Lib.hid hL6
  clear hL6 L5
  obtain ⟨w6, rfl⟩ : ∃ wo : World, wo = wc := ⟨_, rfl⟩
  go_upto_if 60 with fail
  go_cut [] (fun wx => LSt b n w4 an cn ns.length wx)
  case first =>
    cases B
    · go_wp2_with fail
      go_meet
      exact L6.out
    · have hn1 := hB60 rfl
      obtain ⟨gn, rfl⟩ : ∃ gn, an = some ⟨gn, 0, none⟩ := by
        obtain ⟨xs, e1, _, ho, _⟩ := L6.out
        obtain ⟨gn, _, e, _⟩ := owns_cell ho hn1
        injection e with e
        exact ⟨gn, e⟩
      go_upto_region 7 with fail
      refine ta7 T4.out L6.out hn1 ?_
      intro r0 r1 r2 r3 r4 r5 r6 r7 r8 r9 r10 r11 r12 r13 r14 r15 r16 r17 r18 wx hL
      simp only [ta7A]
      have HL := Lib.hid hL
      clear hL
      go_wp2_with fail
      go_meet
      exact HL.out
  case rest =>
  have L7 := Lib.hid hcut
  clear hcut L6 hB60
  obtain ⟨w7, rfl⟩ : ∃ wo : World, wo = wc := ⟨_, rfl⟩
  have M7 := Lib.hid L7.out.mv
  have BC := Lib.hid (bentC_any w7 b n c (some ⟨g, 0, none⟩) (clks ts) (M7.out.tp T4.out) (CL.out w7 M7.out) (by rw [HCL.out]; omega) (by rw [HCL.out]; omega) (fun x hx => by
    obtain ⟨t, ht, rfl⟩ := List.mem_map.1 hx
    have := CW.out t ht
    omega) (hi_ok CK.out))
  rw [HCL.out] at BC
  go_wp2_with fail
  refine BC.out.mono ?_
  rintro e w8 ⟨us, aU, cU, rfl, hul, hus⟩
  have K8 := Lib.hid hus
  have M8 := Lib.hid (M7.out.trans ZR.out hus.mv)
  have Z7 := Lib.hid (by have := M7.out.size; have := ZR.out; omega : b < w7.heap.size)
  have L8 := Lib.hid (L7.out.mvd ZR.out hus.mv)
  clear hus BC
  obtain ⟨W9, hW9⟩ : ∃ W9 : World, Hid (W9 = w8.alloc (.cells #[.slice aR raw.length cR, .slice (some ⟨g, 0, none⟩) ts.length c, .slice aU us.length cU] 23)) := ⟨_, Lib.hid rfl⟩
  have G9 : Hid (Gr w8 W9) := Lib.hid (by rw [hW9.out]; exact (Gr.refl _).alloc _)
  have R9 : Hid (Row W9 w8.heap.size 23 [.slice aR raw.length cR, .slice (some ⟨g, 0, none⟩) ts.length c, .slice aU us.length cU]) := Lib.hid (by rw [hW9.out]; exact Row.new _ _ _)
  have M9 := Lib.hid (M8.out.gr G9.out)
  have GW := Lib.hid (fun W (hW : Mv b n W9 W) => G4.out W (M9.out.trans ZR.out hW))
  go_wp2_with fail
  rw [← hW9.out]
  refine wp_code_eq (c := codeIn 0 Tryz.f3) (by kernel_rfl) (taD (gx := w8.heap.size) (WA := W9) (M9.out.tp T4.out) (fun W hW => HO.out.gr (GW.out W hW)) (fun W hW => HB.out.gr RBrn.mono (GW.out W hW)) sb1 (fun W hW => HM.out.gr RLmt.mono (GW.out W hW)) fM (L8.out.gr G9.out) ZR.out N4.out (fun W hW => LM.out W (M9.out.trans ZR.out hW) 6 (by omega)) (by omega) (fun W hW k hk => ?_) ?_)
  · have zb : b < w8.heap.size := by have := M8.out.size; have := ZR.out; omega
    have r := hW.row R9.out (by omega)
    have c0 := r.cell 0 (by simp)
    have c1 := r.cell 1 (by simp)
    have c2 := r.cell 2 (by simp)
    obtain rfl | rfl | rfl : k = 0 ∨ k = 1 ∨ k = 2 := by omega
    · exact ⟨aR, raw, cR, c0, fun W' hW' => HR.out.gr RClk.mono (GW.out W' hW'), fR⟩
    · exact ⟨some ⟨g, 0, none⟩, clks ts, c, by rw [HCL.out]; exact c1, fun W' hW' => CL.out W' (M9.out.trans ZR.out hW'), by rw [HCL.out]; unfold Fit; omega⟩
    · have K9 : KPl b n w7 us aU cU W9 := K8.out.mvd Z7.out (.of_gr (M8.out.tp T4.out) G9.out)
      exact ⟨aU, us.map (·.c), cU, by rw [List.length_map]; exact c2, fun W' hW' => (K9.mvd Z7.out hW').read, by rw [List.length_map]; unfold Fit; omega⟩
  intro t8 t13 t15 t16 t17 t18 t19 t20 t21 t22 t23 t24 t25 t26 t27 t28 t29 t31 t87 t88 t89 t90 t91 t92 t93 t94 t95 t96 t97 t98 t99 t100 t101 t102 t103 t104 t105 t106 t107 t108 t109 t110 t111 t112 t113 t114 t115 t116 t117 t118 t119 t120 t121 t122 t123 t124 t125 t126 t127 t128 t129 t130 t131 t132 t133 t134 t135 t136 t137 t138 t139 t140 t141 t142 t143 t144 t145 t146 t147 t148 t149 t150 t151 t152 t153 t154 t155 t156 t157 t158 t159 t160 t161 t162 t163 t164 t165 t166 t167 t168 t169 t170 t171 t172 t173 t174 t175 t176 t177 t178 t179 t180 t181 t182 t183 t184 t185 t186 t187 t188 t189 t190 t191 t192 t193 t194 t195 t196 t197 t198 t199 t200 t201 t202 t203 t204 t205 t206 t207 t208 t209 t210 t211 wx hmx
  have GX := Lib.hid (GW.out wx hmx)
  clear hmx
  go_wp2_with fail
  refine (AW.out wx GX.out).mono ?_
  rintro e w10 ⟨rfl, hg10⟩
  have G10 := Lib.hid (GX.out.trans hg10)
  clear hg10
  go_wp2_with fail
  go_ret
  exact ⟨rfl, G10.out⟩
end Go.Proofs.YtenehghpmnajpaaGreatDoor
