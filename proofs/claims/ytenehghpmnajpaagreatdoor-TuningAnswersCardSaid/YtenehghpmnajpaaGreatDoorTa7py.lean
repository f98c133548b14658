/- Lemmas and contracts for the proof of TuningAnswers (several texts in one, printed by wip/tools/pack.py): TaB Ta7 TaC TaD. -/
import Derived.Test.YtenehghpmnajpaaGreatDoorTa7pt
import Derived.Test.YtenehghpmnajpaaGreatDoorTa7pu
import Derived.Test.YtenehghpmnajpaaGreatDoorTa7ps
import Derived.Test.YtenehghpmnajpaaGreatDoorTa7pw
import Derived.Test.YtenehghpmnajpaaGreatDoorTa7pn
import Derived.Test.YtenehghpmnajpaaGreatDoorTa7pq
set_option linter.unusedVariables false
set_option linter.unusedSimpArgs false
namespace Go.Proofs.YtenehghpmnajpaaGreatDoor
open Go.RowKit
open Classical
set_option maxRecDepth 100000 in
set_option maxHeartbeats 16000000 in
theorem taB {Q : Exit → Act → World → Prop} {s0 s1 s2 s3 s4 s5 s6 s7 s8 s9 s10 s11 s12 s14 s16 s17 s18 s19 s20 s21 s22 s23 s24 s25 s26 s27 s28 s29 s30 s31 s32 s33 s34 s35 s36 s37 s38 s39 s40 s41 s42 s43 s44 s45 s46 s47 s48 s49 s50 s51 s52 s53 s54 s55 s56 s57 s58 s59 s60 s61 s62 s63 s64 s65 s66 s67 s68 s69 s70 s71 s72 s73 s74 s75 s76 s77 s78 s79 s80 s81 s82 s83 s84 s85 s86 s87 s88 s89 s90 s91 s92 s93 s94 s95 s96 s97 s98 s99 s100 s101 s102 s103 s104 s105 s106 s107 s108 s109 s110 s111 s112 s113 s114 s115 s116 s117 s118 s119 s120 s121 s122 s123 s124 s125 s126 s127 s128 s129 s130 s131 s132 s133 s134 s135 s136 s137 s138 s139 s140 s141 s142 s143 s144 s145 s146 s147 s148 s149 s150 s151 s152 s153 s154 s155 s156 s157 s158 s159 s160 s161 s162 s163 s164 s165 s166 s167 s168 s169 s170 s171 s172 s173 s174 s175 s176 s177 s178 s179 s180 s181 s182 s183 s184 s185 s186 s187 s188 s189 s190 s191 s192 s193 s197 s198 s199 s200 s201 s202 s203 s204 s205 s206 s207 s208 s209 s210 s211 s212 : Value} {l : List Clk} {ms : List Lmt} {al am : Option Addr} {cl cm gz : Nat} {W0 : World}
    (GE : GEnv W0 l ms al am) (Z : ∀ k, k < 3 → ∃ (a : Option Addr) (q : List Brn) (c : Nat), W0.cell? ⟨gz, k, none⟩ = some (.slice a q.length c) ∧ SlOf 3 RBrn W0 a q ∧ q.length ≤ 100000)
    (h : ∀ (t8 t31 t196 t197 t198 t199 t200 t201 t202 t203 t204 t205 t206 t207 t208 t209 : Value) (wx : World), Gr W0 wx → Q (.exit 4) { tmps := #[s0, s1, s2, s3, s4, s5, s6, s7, t8, s9, s10, s11, s12, .slice al l.length cl, s14, .slice am ms.length cm, s16, s17, s18, s19, s20, s21, s22, s23, s24, s25, s26, s27, s28, s29, s30, t31, s32, s33, s34, s35, s36, s37, s38, s39, s40, s41, s42, s43, s44, s45, s46, s47, s48, s49, s50, s51, s52, s53, s54, s55, s56, s57, s58, s59, s60, s61, s62, s63, s64, s65, s66, s67, s68, s69, s70, s71, s72, s73, s74, s75, s76, s77, s78, s79, s80, s81, s82, s83, s84, s85, s86, s87, s88, s89, s90, s91, s92, s93, s94, s95, s96, s97, s98, s99, s100, s101, s102, s103, s104, s105, s106, s107, s108, s109, s110, s111, s112, s113, s114, s115, s116, s117, s118, s119, s120, s121, s122, s123, s124, s125, s126, s127, s128, s129, s130, s131, s132, s133, s134, s135, s136, s137, s138, s139, s140, s141, s142, s143, s144, s145, s146, s147, s148, s149, s150, s151, s152, s153, s154, s155, s156, s157, s158, s159, s160, s161, s162, s163, s164, s165, s166, s167, s168, s169, s170, s171, s172, s173, s174, s175, s176, s177, s178, s179, s180, s181, s182, s183, s184, s185, s186, s187, s188, s189, s190, s191, s192, s193, .slice (some ⟨gz, 0, none⟩) 3 3, .int .i64 3, t196, t197, t198, t199, t200, t201, t202, t203, t204, t205, t206, t207, t208, t209, s210, s211, s212], defers := [] } wx) :
    (codeIn 4 Tryz.f3).wp Tryz.prog Q { tmps := #[s0, s1, s2, s3, s4, s5, s6, s7, s8, s9, s10, s11, s12, .slice al l.length cl, s14, .slice am ms.length cm, s16, s17, s18, s19, s20, s21, s22, s23, s24, s25, s26, s27, s28, s29, s30, s31, s32, s33, s34, s35, s36, s37, s38, s39, s40, s41, s42, s43, s44, s45, s46, s47, s48, s49, s50, s51, s52, s53, s54, s55, s56, s57, s58, s59, s60, s61, s62, s63, s64, s65, s66, s67, s68, s69, s70, s71, s72, s73, s74, s75, s76, s77, s78, s79, s80, s81, s82, s83, s84, s85, s86, s87, s88, s89, s90, s91, s92, s93, s94, s95, s96, s97, s98, s99, s100, s101, s102, s103, s104, s105, s106, s107, s108, s109, s110, s111, s112, s113, s114, s115, s116, s117, s118, s119, s120, s121, s122, s123, s124, s125, s126, s127, s128, s129, s130, s131, s132, s133, s134, s135, s136, s137, s138, s139, s140, s141, s142, s143, s144, s145, s146, s147, s148, s149, s150, s151, s152, s153, s154, s155, s156, s157, s158, s159, s160, s161, s162, s163, s164, s165, s166, s167, s168, s169, s170, s171, s172, s173, s174, s175, s176, s177, s178, s179, s180, s181, s182, s183, s184, s185, s186, s187, s188, s189, s190, s191, s192, s193, .slice (some ⟨gz, 0, none⟩) 3 3, .int .i64 3, .int .i64 0, s197, s198, s199, s200, s201, s202, s203, s204, s205, s206, s207, s208, s209, s210, s211, s212], defers := [] } W0 := by
  have HQ := PLift.up h
  clear h
  simp only [codeIn, Tryz.f3, codeOf, Option.bind_some, Option.getD_some, Nat.beq, cond_true, cond_false]
  have GE' := Lib.hid GE
  have ZZ := Lib.hid Z
  clear GE Z
  go_loopw [196] (fun s wi => ∃ j : Nat, j ≤ 3 ∧ s = .int .i64 j ∧ Gr W0 wi) (fun s _ => 3 - (intOf s).toNat)
  case atStart => exact ⟨0, Nat.zero_le _, rfl, Gr.refl _⟩
  case round =>
    obtain ⟨j, hj, rfl, hg⟩ := hrel
    have GG := Lib.hid hg
    clear hg
    by_cases hl : j < 3
    · have j3 : (j : Int) < 3 := by omega
      obtain ⟨a, q, c, hc, hs, hq⟩ := ZZ.out j hl
      have hc' := cell_gr GG.out hc
      have hh := has_of_cell hc'
      have SQ := Lib.hid hs
      clear hc hs
      go_wp2_with fail
      clear hc' hh
      refine (pChkG_any l ms q al am a cl cm c wr (GE'.out.gr GG.out) (SQ.out.gr RBrn.mono GG.out) hq).mono ?_
      rintro e w1 ⟨rfl, hg1⟩
      have G1 := Lib.hid (GG.out.trans hg1)
      clear hg1
      go_wp2_with fail
      refine (rChkG_any l ms q al am a cl cm c w1 (GE'.out.gr G1.out) (SQ.out.gr RBrn.mono G1.out) hq).mono ?_
      rintro e w2 ⟨rfl, hg2⟩
      have G2 := Lib.hid (G1.out.trans hg2)
      clear hg2
      go_wp2_with fail
      go_roundw
      case rel => exact ⟨j + 1, by omega, by simp, G2.out⟩
      case measure => simp [intOf]; omega
    · obtain rfl : j = 3 := by omega
      go_wp2_with fail
      exact HQ.down _ _ _ _ _ _ _ _ _ _ _ _ _ _ _ _ _ GG.out
end Go.Proofs.YtenehghpmnajpaaGreatDoor

set_option linter.unusedVariables false
set_option linter.unusedSimpArgs false
namespace Go.Proofs.YtenehghpmnajpaaGreatDoor
open Go.RowKit
open Classical
def LWd (x : Lmt) : Prop := Wide x.clock ∧ Wide x.low ∧ Wide x.high
/-- Limits of the call's own, with any numbers. -/
def LSt (b n : Nat) (w4 : World) (A : Option Addr) (cn k : Nat) (w : World) : Prop := ∃ xs : List Lmt, xs.length = k ∧ (∀ x ∈ xs, LWd x) ∧ w.ownsRow w4.heap.size 35 3 (.slice A k cn) k (xs.flatMap encM) ∧ Mv b n w4 w
theorem wide_wrap (x : Int) : Wide (IntKind.i64.wrap x) := by rw [IntKind.wrap_i64]; unfold Wide; omega
theorem encM_len3 (x : Lmt) : (encM x).length = 3 := rfl
section
variable {b n : Nat} {w4 w w' : World} {A : Option Addr} {gn cn k : Nat}
theorem LSt.gr (h : LSt b n w4 A cn k w) (hg : Gr w w') : LSt b n w4 A cn k w' := by
  obtain ⟨xs, h1, h2, h3, h4⟩ := h
  exact ⟨xs, h1, h2, Gr.owns h3 hg, h4.gr hg⟩
theorem LSt.mvd (h : LSt b n w4 A cn k w) (hb : b < w4.heap.size) (m : Mv b n w w') : LSt b n w4 A cn k w' := by
  obtain ⟨xs, h1, h2, h3, h4⟩ := h
  exact ⟨xs, h1, h2, m.owns h3 hb, h4.trans hb m⟩
theorem LSt.mv (h : LSt b n w4 A cn k w) : Mv b n w4 w := by
  obtain ⟨xs, h1, h2, h3, h4⟩ := h
  exact h4
theorem LSt.at (h : LSt b n w4 (some ⟨gn, 0, none⟩) cn k w) (hk : 0 < k) : ∃ lo hi : Int, w.cell? ⟨gn, 1, none⟩ = some (.int .i64 lo) ∧ w.cell? ⟨gn, 2, none⟩ = some (.int .i64 hi) ∧ Wide lo ∧ Wide hi ∧ w.frozen? ⟨gn, 1, none⟩ = false ∧ w.frozen? ⟨gn, 2, none⟩ = false ∧ Has w gn := by
  obtain ⟨xs, h1, h2, h3, h4⟩ := h
  have hx : 0 < xs.length := by omega
  have hf := fun j (hj : j < 3) => flat_at encM 3 encM_len3 xs 0 j hx hj
  have c1 : w.cell? ⟨gn, 1, none⟩ = some (.int .i64 xs[0].low) := by rw [h3.cellAt 1 (by omega)]; exact (hf 1 (by omega)).trans rfl
  have c2 : w.cell? ⟨gn, 2, none⟩ = some (.int .i64 xs[0].high) := by rw [h3.cellAt 2 (by omega)]; exact (hf 2 (by omega)).trans rfl
  have hw := h2 _ (List.getElem_mem hx)
  exact ⟨_, _, c1, c2, hw.2.1, hw.2.2, h3.frozenAt 1, h3.frozenAt 2, has_of_cell c1⟩
theorem LSt.put (h : LSt b n w4 (some ⟨gn, 0, none⟩) cn k w) (hk : 0 < k) {y : Int} (hy : Wide y) (j : Nat) (hj : j = 1 ∨ j = 2) : LSt b n w4 (some ⟨gn, 0, none⟩) cn k (w.setCell ⟨gn, j, none⟩ (.int .i64 y)) := by
  obtain ⟨xs, h1, h2, h3, h4⟩ := h
  obtain ⟨x, r, rfl⟩ : ∃ x r, xs = x :: r := by
    cases xs with
    | nil => simp at h1; omega
    | cons x r => exact ⟨x, r, rfl⟩
  have low : w4.heap.size ≤ gn := (h3.lt gn rfl).1
  have hw := h2 x (by simp)
  rcases hj with rfl | rfl
  · have hp := owns_put h3 (j := 1) (by omega) (.int .i64 y)
    refine ⟨⟨x.clock, y, x.high⟩ :: r, by simpa using h1, fun z hz => ?_, hp, h4.setc low⟩
    rcases List.mem_cons.1 hz with rfl | hz
    · exact ⟨hw.1, hy, hw.2.2⟩
    · exact h2 z (by simp [hz])
  · have hp := owns_put h3 (j := 2) (by omega) (.int .i64 y)
    refine ⟨⟨x.clock, x.low, y⟩ :: r, by simpa using h1, fun z hz => ?_, hp, h4.setc low⟩
    rcases List.mem_cons.1 hz with rfl | hz
    · exact ⟨hw.1, hw.2.1, hy⟩
    · exact h2 z (by simp [hz])
theorem LSt.sl (h : LSt b n w4 A cn k w) : ∃ xs : List Lmt, xs.length = k ∧ ∀ w', Mv b n w w' → b < w4.heap.size → SlOf 3 RLmt w' A xs := by
  obtain ⟨xs, h1, h2, h3, h4⟩ := h
  refine ⟨xs, h1, fun w' m hb i hi => ?_⟩
  have h5 := m.owns h3 hb
  obtain ⟨g, cap', e, _, _, hcl⟩ := owns_cell h5 (by omega)
  cases e
  have hf := fun j (hj : j < 3) => flat_at encM 3 encM_len3 xs i j hi hj
  have hj : ∀ j, j < 3 → w'.cell? ⟨g, i * 3 + j, none⟩ = (encM xs[i])[j]? := fun j hj => by rw [hcl (i * 3 + j) (by omega), hf j hj]
  have hw := h2 _ (List.getElem_mem hi)
  exact ⟨g, 0, rfl, by rw [Nat.zero_add]; exact ⟨⟨hj 0 (by omega), hw.1⟩, ⟨hj 1 (by omega), hw.2.1⟩, ⟨hj 2 (by omega), hw.2.2⟩⟩⟩
end
/-- What is known of each slot as soon as its operation is done. -/
def ta7F (b n : Nat) (w4 wr : World) (gn cn k : Nat) (t61 t62 t63 t64 t65 t66 t67 t68 t69 t70 t71 t72 t73 t74 t75 t76 t77 t78 t79 : Value) (d : Array Bool) (w : World) : Prop :=
  LSt b n w4 (some ⟨gn, 0, none⟩) cn k w ∧ (d.getD 0 false = true → t61 = .slice (some ⟨gn, 0, none⟩) k cn) ∧
  (d.getD 1 false = true → t62 = .slice (some ⟨gn, 0, none⟩) k cn) ∧
  (d.getD 2 false = true → t63 = .slice (some ⟨gn, 0, none⟩) k cn) ∧
  (d.getD 3 false = true → t64 = .pointer (some ⟨gn, 0, none⟩)) ∧
  (d.getD 4 false = true → t65 = .pointer (some ⟨gn, 2, none⟩)) ∧
  (d.getD 5 false = true → (∃ y : Int, t66 = .int .i64 y ∧ Wide y)) ∧
  (d.getD 6 false = true → (∃ y : Int, t67 = .int .i64 y ∧ Wide y)) ∧
  (d.getD 7 false = true → t68 = .slice (some ⟨gn, 0, none⟩) k cn) ∧
  (d.getD 8 false = true → t69 = .pointer (some ⟨gn, 0, none⟩)) ∧
  (d.getD 9 false = true → t70 = .pointer (some ⟨gn, 2, none⟩)) ∧
  (d.getD 10 false = true → (∃ y : Int, t71 = .int .i64 y ∧ Wide y)) ∧
  (d.getD 11 false = true → t72 = .pointer (some ⟨b, 0, none⟩)) ∧
  (d.getD 12 false = true → (∃ y : Int, t73 = .int .i64 y ∧ Wide y)) ∧
  (d.getD 13 false = true → (∃ y : Int, t74 = .int .i64 y ∧ Wide y)) ∧
  (d.getD 14 false = true → (∃ y : Int, t75 = .int .i64 y ∧ Wide y)) ∧
  (d.getD 15 false = true → t76 = .pointer (some ⟨gn, 0, none⟩)) ∧
  (d.getD 16 false = true → t77 = .pointer (some ⟨gn, 1, none⟩)) ∧
  (d.getD 17 false = true → True) ∧
  (d.getD 18 false = true → t78 = .pointer (some ⟨gn, 0, none⟩)) ∧
  (d.getD 19 false = true → t79 = .pointer (some ⟨gn, 2, none⟩)) ∧
  (d.getD 20 false = true → True)
/-- The frame. -/
def ta7A (b gn cn k : Nat) (t61 t62 t63 t64 t65 t66 t67 t68 t69 t70 t71 t72 t73 t74 t75 t76 t77 t78 t79 s0 s1 s2 s3 s4 s5 s6 s7 s8 s10 s12 s13 s14 s15 s16 s17 s18 s19 s20 s21 s22 s23 s24 s25 s26 s27 s28 s29 s30 s31 s32 s33 s34 s35 s36 s37 s38 s39 s40 s41 s42 s43 s44 s45 s46 s47 s48 s49 s50 s51 s52 s53 s54 s55 s56 s57 s58 s59 s60 s80 s81 s82 s83 s84 s85 s86 s87 s88 s89 s90 s91 s92 s93 s94 s95 s96 s97 s98 s99 s100 s101 s102 s103 s104 s105 s106 s107 s108 s109 s110 s111 s112 s113 s114 s115 s116 s117 s118 s119 s120 s121 s122 s123 s124 s125 s126 s127 s128 s129 s130 s131 s132 s133 s134 s135 s136 s137 s138 s139 s140 s141 s142 s143 s144 s145 s146 s147 s148 s149 s150 s151 s152 s153 s154 s155 s156 s157 s158 s159 s160 s161 s162 s163 s164 s165 s166 s167 s168 s169 s170 s171 s172 s173 s174 s175 s176 s177 s178 s179 s180 s181 s182 s183 s184 s185 s186 s187 s188 s189 s190 s191 s192 s193 s194 s195 s196 s197 s198 s199 s200 s201 s202 s203 s204 s205 s206 s207 s208 s209 s210 s211 s212 : Value) : Act := { tmps := #[s0, s1, s2, s3, s4, s5, s6, s7, s8, .pointer (some ⟨b, 0, none⟩), s10, .slice (some ⟨gn, 0, none⟩) k cn, s12, s13, s14, s15, s16, s17, s18, s19, s20, s21, s22, s23, s24, s25, s26, s27, s28, s29, s30, s31, s32, s33, s34, s35, s36, s37, s38, s39, s40, s41, s42, s43, s44, s45, s46, s47, s48, s49, s50, s51, s52, s53, s54, s55, s56, s57, s58, s59, s60, t61, t62, t63, t64, t65, t66, t67, t68, t69, t70, t71, t72, t73, t74, t75, t76, t77, t78, t79, s80, s81, s82, s83, s84, s85, s86, s87, s88, s89, s90, s91, s92, s93, s94, s95, s96, s97, s98, s99, s100, s101, s102, s103, s104, s105, s106, s107, s108, s109, s110, s111, s112, s113, s114, s115, s116, s117, s118, s119, s120, s121, s122, s123, s124, s125, s126, s127, s128, s129, s130, s131, s132, s133, s134, s135, s136, s137, s138, s139, s140, s141, s142, s143, s144, s145, s146, s147, s148, s149, s150, s151, s152, s153, s154, s155, s156, s157, s158, s159, s160, s161, s162, s163, s164, s165, s166, s167, s168, s169, s170, s171, s172, s173, s174, s175, s176, s177, s178, s179, s180, s181, s182, s183, s184, s185, s186, s187, s188, s189, s190, s191, s192, s193, s194, s195, s196, s197, s198, s199, s200, s201, s202, s203, s204, s205, s206, s207, s208, s209, s210, s211, s212], defers := [] }
set_option maxRecDepth 100000 in
set_option maxHeartbeats 4000000 in
theorem ta7 {Q : Exit → Act → World → Prop} {b n : Nat} {w4 wr : World} {gn cn k : Nat}  {s0 s1 s2 s3 s4 s5 s6 s7 s8 s10 s12 s13 s14 s15 s16 s17 s18 s19 s20 s21 s22 s23 s24 s25 s26 s27 s28 s29 s30 s31 s32 s33 s34 s35 s36 s37 s38 s39 s40 s41 s42 s43 s44 s45 s46 s47 s48 s49 s50 s51 s52 s53 s54 s55 s56 s57 s58 s59 s60 s61 s62 s63 s64 s65 s66 s67 s68 s69 s70 s71 s72 s73 s74 s75 s76 s77 s78 s79 s80 s81 s82 s83 s84 s85 s86 s87 s88 s89 s90 s91 s92 s93 s94 s95 s96 s97 s98 s99 s100 s101 s102 s103 s104 s105 s106 s107 s108 s109 s110 s111 s112 s113 s114 s115 s116 s117 s118 s119 s120 s121 s122 s123 s124 s125 s126 s127 s128 s129 s130 s131 s132 s133 s134 s135 s136 s137 s138 s139 s140 s141 s142 s143 s144 s145 s146 s147 s148 s149 s150 s151 s152 s153 s154 s155 s156 s157 s158 s159 s160 s161 s162 s163 s164 s165 s166 s167 s168 s169 s170 s171 s172 s173 s174 s175 s176 s177 s178 s179 s180 s181 s182 s183 s184 s185 s186 s187 s188 s189 s190 s191 s192 s193 s194 s195 s196 s197 s198 s199 s200 s201 s202 s203 s204 s205 s206 s207 s208 s209 s210 s211 s212 : Value} (TP0 : Tp w4 b n) (H0 : LSt b n w4 (some ⟨gn, 0, none⟩) cn k wr) (hk : 0 < k)
    (h' : ∀ t61 t62 t63 t64 t65 t66 t67 t68 t69 t70 t71 t72 t73 t74 t75 t76 t77 t78 t79 wx, LSt b n w4 (some ⟨gn, 0, none⟩) cn k wx → Q .normal (ta7A b gn cn k t61 t62 t63 t64 t65 t66 t67 t68 t69 t70 t71 t72 t73 t74 t75 t76 t77 t78 t79 s0 s1 s2 s3 s4 s5 s6 s7 s8 s10 s12 s13 s14 s15 s16 s17 s18 s19 s20 s21 s22 s23 s24 s25 s26 s27 s28 s29 s30 s31 s32 s33 s34 s35 s36 s37 s38 s39 s40 s41 s42 s43 s44 s45 s46 s47 s48 s49 s50 s51 s52 s53 s54 s55 s56 s57 s58 s59 s60 s80 s81 s82 s83 s84 s85 s86 s87 s88 s89 s90 s91 s92 s93 s94 s95 s96 s97 s98 s99 s100 s101 s102 s103 s104 s105 s106 s107 s108 s109 s110 s111 s112 s113 s114 s115 s116 s117 s118 s119 s120 s121 s122 s123 s124 s125 s126 s127 s128 s129 s130 s131 s132 s133 s134 s135 s136 s137 s138 s139 s140 s141 s142 s143 s144 s145 s146 s147 s148 s149 s150 s151 s152 s153 s154 s155 s156 s157 s158 s159 s160 s161 s162 s163 s164 s165 s166 s167 s168 s169 s170 s171 s172 s173 s174 s175 s176 s177 s178 s179 s180 s181 s182 s183 s184 s185 s186 s187 s188 s189 s190 s191 s192 s193 s194 s195 s196 s197 s198 s199 s200 s201 s202 s203 s204 s205 s206 s207 s208 s209 s210 s211 s212) wx) :
    (Code.region 7 (regIn 7 Tryz.f3) true).wp Tryz.prog Q { tmps := #[s0, s1, s2, s3, s4, s5, s6, s7, s8, .pointer (some ⟨b, 0, none⟩), s10, .slice (some ⟨gn, 0, none⟩) k cn, s12, s13, s14, s15, s16, s17, s18, s19, s20, s21, s22, s23, s24, s25, s26, s27, s28, s29, s30, s31, s32, s33, s34, s35, s36, s37, s38, s39, s40, s41, s42, s43, s44, s45, s46, s47, s48, s49, s50, s51, s52, s53, s54, s55, s56, s57, s58, s59, s60, s61, s62, s63, s64, s65, s66, s67, s68, s69, s70, s71, s72, s73, s74, s75, s76, s77, s78, s79, s80, s81, s82, s83, s84, s85, s86, s87, s88, s89, s90, s91, s92, s93, s94, s95, s96, s97, s98, s99, s100, s101, s102, s103, s104, s105, s106, s107, s108, s109, s110, s111, s112, s113, s114, s115, s116, s117, s118, s119, s120, s121, s122, s123, s124, s125, s126, s127, s128, s129, s130, s131, s132, s133, s134, s135, s136, s137, s138, s139, s140, s141, s142, s143, s144, s145, s146, s147, s148, s149, s150, s151, s152, s153, s154, s155, s156, s157, s158, s159, s160, s161, s162, s163, s164, s165, s166, s167, s168, s169, s170, s171, s172, s173, s174, s175, s176, s177, s178, s179, s180, s181, s182, s183, s184, s185, s186, s187, s188, s189, s190, s191, s192, s193, s194, s195, s196, s197, s198, s199, s200, s201, s202, s203, s204, s205, s206, s207, s208, s209, s210, s211, s212], defers := [] } wr := by
  have TP := PLift.up TP0
  have HBW := PLift.up TP0.has
  have hdk : decide (0 < k) = true := decide_eq_true hk
  clear TP0
  simp only [regIn, Tryz.f3, regOps, Option.bind_some, Option.getD_some, Nat.beq, cond_true, cond_false]
  refine wp_region_steps (fun done a w => ∃ t61 t62 t63 t64 t65 t66 t67 t68 t69 t70 t71 t72 t73 t74 t75 t76 t77 t78 t79, a = ta7A b gn cn k t61 t62 t63 t64 t65 t66 t67 t68 t69 t70 t71 t72 t73 t74 t75 t76 t77 t78 t79 s0 s1 s2 s3 s4 s5 s6 s7 s8 s10 s12 s13 s14 s15 s16 s17 s18 s19 s20 s21 s22 s23 s24 s25 s26 s27 s28 s29 s30 s31 s32 s33 s34 s35 s36 s37 s38 s39 s40 s41 s42 s43 s44 s45 s46 s47 s48 s49 s50 s51 s52 s53 s54 s55 s56 s57 s58 s59 s60 s80 s81 s82 s83 s84 s85 s86 s87 s88 s89 s90 s91 s92 s93 s94 s95 s96 s97 s98 s99 s100 s101 s102 s103 s104 s105 s106 s107 s108 s109 s110 s111 s112 s113 s114 s115 s116 s117 s118 s119 s120 s121 s122 s123 s124 s125 s126 s127 s128 s129 s130 s131 s132 s133 s134 s135 s136 s137 s138 s139 s140 s141 s142 s143 s144 s145 s146 s147 s148 s149 s150 s151 s152 s153 s154 s155 s156 s157 s158 s159 s160 s161 s162 s163 s164 s165 s166 s167 s168 s169 s170 s171 s172 s173 s174 s175 s176 s177 s178 s179 s180 s181 s182 s183 s184 s185 s186 s187 s188 s189 s190 s191 s192 s193 s194 s195 s196 s197 s198 s199 s200 s201 s202 s203 s204 s205 s206 s207 s208 s209 s210 s211 s212 ∧ ta7F b n w4 wr gn cn k t61 t62 t63 t64 t65 t66 t67 t68 t69 t70 t71 t72 t73 t74 t75 t76 t77 t78 t79 done w) (by kernel_rfl) (by kernel_rfl) ?_ ⟨?_, ?_, ?_, ?_, ?_, ?_, ?_, ?_, ?_, ?_, ?_, ?_, ?_, ?_, ?_, ?_, ?_, ?_, ?_, ?_, ?_, trivial⟩ ?_
  · exact ⟨s61, s62, s63, s64, s65, s66, s67, s68, s69, s70, s71, s72, s73, s74, s75, s76, s77, s78, s79, rfl, H0.gr (Gr.refl _).drew, fun q => absurd q (by decide), fun q => absurd q (by decide), fun q => absurd q (by decide), fun q => absurd q (by decide), fun q => absurd q (by decide), fun q => absurd q (by decide), fun q => absurd q (by decide), fun q => absurd q (by decide), fun q => absurd q (by decide), fun q => absurd q (by decide), fun q => absurd q (by decide), fun q => absurd q (by decide), fun q => absurd q (by decide), fun q => absurd q (by decide), fun q => absurd q (by decide), fun q => absurd q (by decide), fun q => absurd q (by decide), fun q => absurd q (by decide), fun q => absurd q (by decide), fun q => absurd q (by decide), fun q => absurd q (by decide)⟩
  · rintro done a w hsz hnot hdep ⟨t61, t62, t63, t64, t65, t66, t67, t68, t69, t70, t71, t72, t73, t74, t75, t76, t77, t78, t79, rfl, gw, f0, f1, f2, f3, f4, f5, f6, f7, f8, f9, f10, f11, f12, f13, f14, f15, f16, f17, f18, f19, f20⟩ K hK
    have hn : ¬ done.getD 0 false = true := by rw [getD_both hnot]; decide
    have HK := PLift.up hK
    clear hK 
    simp only [ta7A]
    go_simp
    have gg : Gr w w := Gr.refl _
    refine HK.down _ _ ⟨_, _, _, _, _, _, _, _, _, _, _, _, _, _, _, _, _, _, _, rfl, gw, fun _ => rfl, kp f1, kp f2, kp f3, kp f4, kp f5, kp f6, kp f7, kp f8, kp f9, kp f10, kp f11, kp f12, kp f13, kp f14, kp f15, kp f16, kp f17, kp f18, kp f19, kp f20⟩
  · rintro done a w hsz hnot hdep ⟨t61, t62, t63, t64, t65, t66, t67, t68, t69, t70, t71, t72, t73, t74, t75, t76, t77, t78, t79, rfl, gw, f0, f1, f2, f3, f4, f5, f6, f7, f8, f9, f10, f11, f12, f13, f14, f15, f16, f17, f18, f19, f20⟩ K hK
    have hn : ¬ done.getD 1 false = true := by rw [getD_both hnot]; decide
    have HK := PLift.up hK
    clear hK 
    simp only [ta7A]
    go_simp
    have gg : Gr w w := Gr.refl _
    refine HK.down _ _ ⟨_, _, _, _, _, _, _, _, _, _, _, _, _, _, _, _, _, _, _, rfl, gw, kp f0, fun _ => rfl, kp f2, kp f3, kp f4, kp f5, kp f6, kp f7, kp f8, kp f9, kp f10, kp f11, kp f12, kp f13, kp f14, kp f15, kp f16, kp f17, kp f18, kp f19, kp f20⟩
  · rintro done a w hsz hnot hdep ⟨t61, t62, t63, t64, t65, t66, t67, t68, t69, t70, t71, t72, t73, t74, t75, t76, t77, t78, t79, rfl, gw, f0, f1, f2, f3, f4, f5, f6, f7, f8, f9, f10, f11, f12, f13, f14, f15, f16, f17, f18, f19, f20⟩ K hK
    have hn : ¬ done.getD 2 false = true := by rw [getD_both hnot]; decide
    have HK := PLift.up hK
    clear hK 
    simp only [ta7A]
    go_simp
    have gg : Gr w w := Gr.refl _
    refine HK.down _ _ ⟨_, _, _, _, _, _, _, _, _, _, _, _, _, _, _, _, _, _, _, rfl, gw, kp f0, kp f1, fun _ => rfl, kp f3, kp f4, kp f5, kp f6, kp f7, kp f8, kp f9, kp f10, kp f11, kp f12, kp f13, kp f14, kp f15, kp f16, kp f17, kp f18, kp f19, kp f20⟩
  · rintro done a w hsz hnot hdep ⟨t61, t62, t63, t64, t65, t66, t67, t68, t69, t70, t71, t72, t73, t74, t75, t76, t77, t78, t79, rfl, gw, f0, f1, f2, f3, f4, f5, f6, f7, f8, f9, f10, f11, f12, f13, f14, f15, f16, f17, f18, f19, f20⟩ K hK
    have hn : ¬ done.getD 3 false = true := by rw [getD_both hnot]; decide
    have d2 := hdep 2 (by kernel_rfl)
    obtain rfl := f2 d2
    have HK := PLift.up hK
    clear hK d2
    simp only [ta7A]
    go_simp
    have gg : Gr w w := Gr.refl _
    refine HK.down _ _ ⟨_, _, _, _, _, _, _, _, _, _, _, _, _, _, _, _, _, _, _, rfl, gw, kp f0, kp f1, kp f2, fun _ => rfl, kp f4, kp f5, kp f6, kp f7, kp f8, kp f9, kp f10, kp f11, kp f12, kp f13, kp f14, kp f15, kp f16, kp f17, kp f18, kp f19, kp f20⟩
  · rintro done a w hsz hnot hdep ⟨t61, t62, t63, t64, t65, t66, t67, t68, t69, t70, t71, t72, t73, t74, t75, t76, t77, t78, t79, rfl, gw, f0, f1, f2, f3, f4, f5, f6, f7, f8, f9, f10, f11, f12, f13, f14, f15, f16, f17, f18, f19, f20⟩ K hK
    have hn : ¬ done.getD 4 false = true := by rw [getD_both hnot]; decide
    have d3 := hdep 3 (by kernel_rfl)
    obtain rfl := f3 d3
    have HK := PLift.up hK
    clear hK d3
    simp only [ta7A]
    go_simp
    have gg : Gr w w := Gr.refl _
    refine HK.down _ _ ⟨_, _, _, _, _, _, _, _, _, _, _, _, _, _, _, _, _, _, _, rfl, gw, kp f0, kp f1, kp f2, kp f3, fun _ => rfl, kp f5, kp f6, kp f7, kp f8, kp f9, kp f10, kp f11, kp f12, kp f13, kp f14, kp f15, kp f16, kp f17, kp f18, kp f19, kp f20⟩
  · rintro done a w hsz hnot hdep ⟨t61, t62, t63, t64, t65, t66, t67, t68, t69, t70, t71, t72, t73, t74, t75, t76, t77, t78, t79, rfl, gw, f0, f1, f2, f3, f4, f5, f6, f7, f8, f9, f10, f11, f12, f13, f14, f15, f16, f17, f18, f19, f20⟩ K hK
    have hn : ¬ done.getD 5 false = true := by rw [getD_both hnot]; decide
    have d4 := hdep 4 (by kernel_rfl)
    obtain rfl := f4 d4
    obtain ⟨lo, hi, c1, c2, v1, v2, _, _, ch⟩ := gw.at hk
    have V := PLift.up v2
    have GW := PLift.up gw
    clear gw v1 v2
    have HK := PLift.up hK
    clear hK d4
    simp only [ta7A]
    go_simp
    have gg : Gr w w := Gr.refl _
    refine HK.down _ _ ⟨_, _, _, _, _, _, _, _, _, _, _, _, _, _, _, _, _, _, _, rfl, GW.down, kp f0, kp f1, kp f2, kp f3, kp f4, ?_, kp f6, kp f7, kp f8, kp f9, kp f10, kp f11, kp f12, kp f13, kp f14, kp f15, kp f16, kp f17, kp f18, kp f19, kp f20⟩
    exact fun _ => ⟨hi, rfl, V.down⟩
  · rintro done a w hsz hnot hdep ⟨t61, t62, t63, t64, t65, t66, t67, t68, t69, t70, t71, t72, t73, t74, t75, t76, t77, t78, t79, rfl, gw, f0, f1, f2, f3, f4, f5, f6, f7, f8, f9, f10, f11, f12, f13, f14, f15, f16, f17, f18, f19, f20⟩ K hK
    have hn : ¬ done.getD 6 false = true := by rw [getD_both hnot]; decide
    have d5 := hdep 5 (by kernel_rfl)
    obtain ⟨y, rfl, v⟩ := f5 d5
    have V := PLift.up v
    clear d5 v
    have HK := PLift.up hK
    clear hK 
    simp only [ta7A]
    go_simp
    have gg : Gr w w := Gr.refl _
    refine HK.down _ _ ⟨_, _, _, _, _, _, _, _, _, _, _, _, _, _, _, _, _, _, _, rfl, gw, kp f0, kp f1, kp f2, kp f3, kp f4, fun _ => ⟨y, rfl, V.down⟩, ?_, kp f7, kp f8, kp f9, kp f10, kp f11, kp f12, kp f13, kp f14, kp f15, kp f16, kp f17, kp f18, kp f19, kp f20⟩
    exact fun _ => ⟨_, rfl, wide_wrap _⟩
  · rintro done a w hsz hnot hdep ⟨t61, t62, t63, t64, t65, t66, t67, t68, t69, t70, t71, t72, t73, t74, t75, t76, t77, t78, t79, rfl, gw, f0, f1, f2, f3, f4, f5, f6, f7, f8, f9, f10, f11, f12, f13, f14, f15, f16, f17, f18, f19, f20⟩ K hK
    have hn : ¬ done.getD 7 false = true := by rw [getD_both hnot]; decide
    have HK := PLift.up hK
    clear hK 
    simp only [ta7A]
    go_simp
    have gg : Gr w w := Gr.refl _
    refine HK.down _ _ ⟨_, _, _, _, _, _, _, _, _, _, _, _, _, _, _, _, _, _, _, rfl, gw, kp f0, kp f1, kp f2, kp f3, kp f4, kp f5, kp f6, fun _ => rfl, kp f8, kp f9, kp f10, kp f11, kp f12, kp f13, kp f14, kp f15, kp f16, kp f17, kp f18, kp f19, kp f20⟩
  · rintro done a w hsz hnot hdep ⟨t61, t62, t63, t64, t65, t66, t67, t68, t69, t70, t71, t72, t73, t74, t75, t76, t77, t78, t79, rfl, gw, f0, f1, f2, f3, f4, f5, f6, f7, f8, f9, f10, f11, f12, f13, f14, f15, f16, f17, f18, f19, f20⟩ K hK
    have hn : ¬ done.getD 8 false = true := by rw [getD_both hnot]; decide
    have d7 := hdep 7 (by kernel_rfl)
    obtain rfl := f7 d7
    have HK := PLift.up hK
    clear hK d7
    simp only [ta7A]
    go_simp
    have gg : Gr w w := Gr.refl _
    refine HK.down _ _ ⟨_, _, _, _, _, _, _, _, _, _, _, _, _, _, _, _, _, _, _, rfl, gw, kp f0, kp f1, kp f2, kp f3, kp f4, kp f5, kp f6, kp f7, fun _ => rfl, kp f9, kp f10, kp f11, kp f12, kp f13, kp f14, kp f15, kp f16, kp f17, kp f18, kp f19, kp f20⟩
  · rintro done a w hsz hnot hdep ⟨t61, t62, t63, t64, t65, t66, t67, t68, t69, t70, t71, t72, t73, t74, t75, t76, t77, t78, t79, rfl, gw, f0, f1, f2, f3, f4, f5, f6, f7, f8, f9, f10, f11, f12, f13, f14, f15, f16, f17, f18, f19, f20⟩ K hK
    have hn : ¬ done.getD 9 false = true := by rw [getD_both hnot]; decide
    have d8 := hdep 8 (by kernel_rfl)
    obtain rfl := f8 d8
    have HK := PLift.up hK
    clear hK d8
    simp only [ta7A]
    go_simp
    have gg : Gr w w := Gr.refl _
    refine HK.down _ _ ⟨_, _, _, _, _, _, _, _, _, _, _, _, _, _, _, _, _, _, _, rfl, gw, kp f0, kp f1, kp f2, kp f3, kp f4, kp f5, kp f6, kp f7, kp f8, fun _ => rfl, kp f10, kp f11, kp f12, kp f13, kp f14, kp f15, kp f16, kp f17, kp f18, kp f19, kp f20⟩
  · rintro done a w hsz hnot hdep ⟨t61, t62, t63, t64, t65, t66, t67, t68, t69, t70, t71, t72, t73, t74, t75, t76, t77, t78, t79, rfl, gw, f0, f1, f2, f3, f4, f5, f6, f7, f8, f9, f10, f11, f12, f13, f14, f15, f16, f17, f18, f19, f20⟩ K hK
    have hn : ¬ done.getD 10 false = true := by rw [getD_both hnot]; decide
    have d9 := hdep 9 (by kernel_rfl)
    obtain rfl := f9 d9
    obtain ⟨lo, hi, c1, c2, v1, v2, _, _, ch⟩ := gw.at hk
    have V := PLift.up v2
    have GW := PLift.up gw
    clear gw v1 v2
    have HK := PLift.up hK
    clear hK d9
    simp only [ta7A]
    go_simp
    have gg : Gr w w := Gr.refl _
    refine HK.down _ _ ⟨_, _, _, _, _, _, _, _, _, _, _, _, _, _, _, _, _, _, _, rfl, GW.down, kp f0, kp f1, kp f2, kp f3, kp f4, kp f5, kp f6, kp f7, kp f8, kp f9, ?_, kp f11, kp f12, kp f13, kp f14, kp f15, kp f16, kp f17, kp f18, kp f19, kp f20⟩
    exact fun _ => ⟨hi, rfl, V.down⟩
  · rintro done a w hsz hnot hdep ⟨t61, t62, t63, t64, t65, t66, t67, t68, t69, t70, t71, t72, t73, t74, t75, t76, t77, t78, t79, rfl, gw, f0, f1, f2, f3, f4, f5, f6, f7, f8, f9, f10, f11, f12, f13, f14, f15, f16, f17, f18, f19, f20⟩ K hK
    have hn : ¬ done.getD 11 false = true := by rw [getD_both hnot]; decide
    have HK := PLift.up hK
    clear hK 
    simp only [ta7A]
    go_simp
    have gg : Gr w w := Gr.refl _
    refine HK.down _ _ ⟨_, _, _, _, _, _, _, _, _, _, _, _, _, _, _, _, _, _, _, rfl, gw, kp f0, kp f1, kp f2, kp f3, kp f4, kp f5, kp f6, kp f7, kp f8, kp f9, kp f10, fun _ => rfl, kp f12, kp f13, kp f14, kp f15, kp f16, kp f17, kp f18, kp f19, kp f20⟩
  · rintro done a w hsz hnot hdep ⟨t61, t62, t63, t64, t65, t66, t67, t68, t69, t70, t71, t72, t73, t74, t75, t76, t77, t78, t79, rfl, gw, f0, f1, f2, f3, f4, f5, f6, f7, f8, f9, f10, f11, f12, f13, f14, f15, f16, f17, f18, f19, f20⟩ K hK
    have hn : ¬ done.getD 12 false = true := by rw [getD_both hnot]; decide
    have d11 := hdep 11 (by kernel_rfl)
    obtain rfl := f11 d11
    have HB := PLift.up gw
    clear gw
    have HK := PLift.up hK
    clear hK d11
    simp only [ta7A]
    go_simp
    refine (nM_any w b n 20 (HB.down.mv.tp TP.down) (by omega) (by omega)).mono ?_
    rintro e w2 ⟨y, rfl, ⟨y0, y1⟩, hm⟩
    (try go_simp)
    refine HK.down _ _ ⟨_, _, _, _, _, _, _, _, _, _, _, _, _, _, _, _, _, _, _, rfl, HB.down.mvd HBW.down hm, kp f0, kp f1, kp f2, kp f3, kp f4, kp f5, kp f6, kp f7, kp f8, kp f9, kp f10, kp f11, ?_, kp f13, kp f14, kp f15, kp f16, kp f17, kp f18, kp f19, kp f20⟩
    exact fun _ => ⟨y, rfl, by unfold Wide; omega⟩
  · rintro done a w hsz hnot hdep ⟨t61, t62, t63, t64, t65, t66, t67, t68, t69, t70, t71, t72, t73, t74, t75, t76, t77, t78, t79, rfl, gw, f0, f1, f2, f3, f4, f5, f6, f7, f8, f9, f10, f11, f12, f13, f14, f15, f16, f17, f18, f19, f20⟩ K hK
    have hn : ¬ done.getD 13 false = true := by rw [getD_both hnot]; decide
    have d10 := hdep 10 (by kernel_rfl)
    have d12 := hdep 12 (by kernel_rfl)
    obtain ⟨y, rfl, v⟩ := f10 d10
    obtain ⟨z, rfl, u⟩ := f12 d12
    have V := PLift.up (And.intro v u)
    clear d10 d12 v u
    have HK := PLift.up hK
    clear hK 
    simp only [ta7A]
    go_simp
    have gg : Gr w w := Gr.refl _
    refine HK.down _ _ ⟨_, _, _, _, _, _, _, _, _, _, _, _, _, _, _, _, _, _, _, rfl, gw, kp f0, kp f1, kp f2, kp f3, kp f4, kp f5, kp f6, kp f7, kp f8, kp f9, fun _ => ⟨y, rfl, V.down.1⟩, kp f11, fun _ => ⟨z, rfl, V.down.2⟩, ?_, kp f14, kp f15, kp f16, kp f17, kp f18, kp f19, kp f20⟩
    exact fun _ => ⟨_, rfl, wide_wrap _⟩
  · rintro done a w hsz hnot hdep ⟨t61, t62, t63, t64, t65, t66, t67, t68, t69, t70, t71, t72, t73, t74, t75, t76, t77, t78, t79, rfl, gw, f0, f1, f2, f3, f4, f5, f6, f7, f8, f9, f10, f11, f12, f13, f14, f15, f16, f17, f18, f19, f20⟩ K hK
    have hn : ¬ done.getD 14 false = true := by rw [getD_both hnot]; decide
    have d13 := hdep 13 (by kernel_rfl)
    obtain ⟨y, rfl, v⟩ := f13 d13
    have V := PLift.up v
    clear d13 v
    have HK := PLift.up hK
    clear hK 
    simp only [ta7A]
    go_simp
    have gg : Gr w w := Gr.refl _
    refine HK.down _ _ ⟨_, _, _, _, _, _, _, _, _, _, _, _, _, _, _, _, _, _, _, rfl, gw, kp f0, kp f1, kp f2, kp f3, kp f4, kp f5, kp f6, kp f7, kp f8, kp f9, kp f10, kp f11, kp f12, fun _ => ⟨y, rfl, V.down⟩, ?_, kp f15, kp f16, kp f17, kp f18, kp f19, kp f20⟩
    exact fun _ => ⟨_, rfl, wide_wrap _⟩
  · rintro done a w hsz hnot hdep ⟨t61, t62, t63, t64, t65, t66, t67, t68, t69, t70, t71, t72, t73, t74, t75, t76, t77, t78, t79, rfl, gw, f0, f1, f2, f3, f4, f5, f6, f7, f8, f9, f10, f11, f12, f13, f14, f15, f16, f17, f18, f19, f20⟩ K hK
    have hn : ¬ done.getD 15 false = true := by rw [getD_both hnot]; decide
    have d0 := hdep 0 (by kernel_rfl)
    obtain rfl := f0 d0
    have HK := PLift.up hK
    clear hK d0
    simp only [ta7A]
    go_simp
    have gg : Gr w w := Gr.refl _
    refine HK.down _ _ ⟨_, _, _, _, _, _, _, _, _, _, _, _, _, _, _, _, _, _, _, rfl, gw, kp f0, kp f1, kp f2, kp f3, kp f4, kp f5, kp f6, kp f7, kp f8, kp f9, kp f10, kp f11, kp f12, kp f13, kp f14, fun _ => rfl, kp f16, kp f17, kp f18, kp f19, kp f20⟩
  · rintro done a w hsz hnot hdep ⟨t61, t62, t63, t64, t65, t66, t67, t68, t69, t70, t71, t72, t73, t74, t75, t76, t77, t78, t79, rfl, gw, f0, f1, f2, f3, f4, f5, f6, f7, f8, f9, f10, f11, f12, f13, f14, f15, f16, f17, f18, f19, f20⟩ K hK
    have hn : ¬ done.getD 16 false = true := by rw [getD_both hnot]; decide
    have d15 := hdep 15 (by kernel_rfl)
    obtain rfl := f15 d15
    have HK := PLift.up hK
    clear hK d15
    simp only [ta7A]
    go_simp
    have gg : Gr w w := Gr.refl _
    refine HK.down _ _ ⟨_, _, _, _, _, _, _, _, _, _, _, _, _, _, _, _, _, _, _, rfl, gw, kp f0, kp f1, kp f2, kp f3, kp f4, kp f5, kp f6, kp f7, kp f8, kp f9, kp f10, kp f11, kp f12, kp f13, kp f14, kp f15, fun _ => rfl, kp f17, kp f18, kp f19, kp f20⟩
  · rintro done a w hsz hnot hdep ⟨t61, t62, t63, t64, t65, t66, t67, t68, t69, t70, t71, t72, t73, t74, t75, t76, t77, t78, t79, rfl, gw, f0, f1, f2, f3, f4, f5, f6, f7, f8, f9, f10, f11, f12, f13, f14, f15, f16, f17, f18, f19, f20⟩ K hK
    have hn : ¬ done.getD 17 false = true := by rw [getD_both hnot]; decide
    have d6 := hdep 6 (by kernel_rfl)
    have d16 := hdep 16 (by kernel_rfl)
    obtain rfl := f16 d16
    obtain ⟨y, rfl, v⟩ := f6 d6
    obtain ⟨lo, hi, c1, c2, _, _, cf1, cf2, ch⟩ := gw.at hk
    have GW := PLift.up (gw.put hk v 1 (by decide))
    have V := PLift.up v
    clear gw v d6 c2 cf2
    have HK := PLift.up hK
    clear hK d16
    simp only [ta7A]
    go_simp
    refine HK.down _ _ ⟨_, _, _, _, _, _, _, _, _, _, _, _, _, _, _, _, _, _, _, rfl, GW.down, kp f0, kp f1, kp f2, kp f3, kp f4, kp f5, fun _ => ⟨y, rfl, V.down⟩, kp f7, kp f8, kp f9, kp f10, kp f11, kp f12, kp f13, kp f14, kp f15, kp f16, ?_, kp f18, kp f19, kp f20⟩
    exact fun _ => trivial
  · rintro done a w hsz hnot hdep ⟨t61, t62, t63, t64, t65, t66, t67, t68, t69, t70, t71, t72, t73, t74, t75, t76, t77, t78, t79, rfl, gw, f0, f1, f2, f3, f4, f5, f6, f7, f8, f9, f10, f11, f12, f13, f14, f15, f16, f17, f18, f19, f20⟩ K hK
    have hn : ¬ done.getD 18 false = true := by rw [getD_both hnot]; decide
    have d1 := hdep 1 (by kernel_rfl)
    obtain rfl := f1 d1
    have HK := PLift.up hK
    clear hK d1
    simp only [ta7A]
    go_simp
    have gg : Gr w w := Gr.refl _
    refine HK.down _ _ ⟨_, _, _, _, _, _, _, _, _, _, _, _, _, _, _, _, _, _, _, rfl, gw, kp f0, kp f1, kp f2, kp f3, kp f4, kp f5, kp f6, kp f7, kp f8, kp f9, kp f10, kp f11, kp f12, kp f13, kp f14, kp f15, kp f16, kp f17, fun _ => rfl, kp f19, kp f20⟩
  · rintro done a w hsz hnot hdep ⟨t61, t62, t63, t64, t65, t66, t67, t68, t69, t70, t71, t72, t73, t74, t75, t76, t77, t78, t79, rfl, gw, f0, f1, f2, f3, f4, f5, f6, f7, f8, f9, f10, f11, f12, f13, f14, f15, f16, f17, f18, f19, f20⟩ K hK
    have hn : ¬ done.getD 19 false = true := by rw [getD_both hnot]; decide
    have d18 := hdep 18 (by kernel_rfl)
    obtain rfl := f18 d18
    have HK := PLift.up hK
    clear hK d18
    simp only [ta7A]
    go_simp
    have gg : Gr w w := Gr.refl _
    refine HK.down _ _ ⟨_, _, _, _, _, _, _, _, _, _, _, _, _, _, _, _, _, _, _, rfl, gw, kp f0, kp f1, kp f2, kp f3, kp f4, kp f5, kp f6, kp f7, kp f8, kp f9, kp f10, kp f11, kp f12, kp f13, kp f14, kp f15, kp f16, kp f17, kp f18, fun _ => rfl, kp f20⟩
  · rintro done a w hsz hnot hdep ⟨t61, t62, t63, t64, t65, t66, t67, t68, t69, t70, t71, t72, t73, t74, t75, t76, t77, t78, t79, rfl, gw, f0, f1, f2, f3, f4, f5, f6, f7, f8, f9, f10, f11, f12, f13, f14, f15, f16, f17, f18, f19, f20⟩ K hK
    have hn : ¬ done.getD 20 false = true := by rw [getD_both hnot]; decide
    have d14 := hdep 14 (by kernel_rfl)
    have d19 := hdep 19 (by kernel_rfl)
    obtain rfl := f19 d19
    obtain ⟨y, rfl, v⟩ := f14 d14
    obtain ⟨lo, hi, c1, c2, _, _, cf1, cf2, ch⟩ := gw.at hk
    have GW := PLift.up (gw.put hk v 2 (by decide))
    have V := PLift.up v
    clear gw v d14 c1 cf1
    have HK := PLift.up hK
    clear hK d19
    simp only [ta7A]
    go_simp
    refine HK.down _ _ ⟨_, _, _, _, _, _, _, _, _, _, _, _, _, _, _, _, _, _, _, rfl, GW.down, kp f0, kp f1, kp f2, kp f3, kp f4, kp f5, kp f6, kp f7, kp f8, kp f9, kp f10, kp f11, kp f12, kp f13, fun _ => ⟨y, rfl, V.down⟩, kp f15, kp f16, kp f17, kp f18, kp f19, ?_⟩
    exact fun _ => trivial
  · rintro done a w hall ⟨t61, t62, t63, t64, t65, t66, t67, t68, t69, t70, t71, t72, t73, t74, t75, t76, t77, t78, t79, rfl, gw, f0, f1, f2, f3, f4, f5, f6, f7, f8, f9, f10, f11, f12, f13, f14, f15, f16, f17, f18, f19, f20⟩
    exact h' _ _ _ _ _ _ _ _ _ _ _ _ _ _ _ _ _ _ _ w gw
end Go.Proofs.YtenehghpmnajpaaGreatDoor

set_option linter.unusedVariables false
set_option linter.unusedSimpArgs false
namespace Go.Proofs.YtenehghpmnajpaaGreatDoor
open Go.RowKit
open Classical
theorem setN_len (l : List Clk) (n : Nat) : (setN l n).length ≤ l.length := by
  unfold setN
  split
  · rename_i h
    have := (Classical.choose_spec h).1.1
    omega
  · simp
theorem sol_len (l : List Clk) (ms : List Lmt) : (solL l ms).length ≤ l.length := by
  unfold solL
  split
  · cases h : metL l ms (prodC l) with
    | nil => simp
    | cons s r =>
      have hs : s ∈ metL l ms (prodC l) := by rw [h]; simp
      unfold metL at hs
      obtain ⟨k, _, rfl⟩ := List.mem_map.1 (List.mem_filter.1 hs).1
      exact setN_len l k
  · simp
theorem le_len (l : List Clk) (ms : List Lmt) : (leL l ms).length ≤ ms.length := by
  unfold leL
  split
  · split
    · exact leastGo_len l ms ms.length
    · simp
  · simp
set_option maxRecDepth 100000 in
set_option maxHeartbeats 16000000 in
theorem taC {Q : Exit → Act → World → Prop} {s0 s1 s2 s4 s5 s6 s7 s8 s10 s11 s12 s14 s15 s16 s17 s18 s19 s20 s21 s22 s23 s24 s25 s26 s27 s28 s29 s30 s31 s32 s33 s34 s35 s36 s37 s38 s39 s40 s41 s42 s43 s44 s45 s46 s47 s48 s49 s50 s51 s52 s53 s54 s55 s56 s57 s58 s59 s60 s61 s62 s63 s64 s65 s66 s67 s68 s69 s70 s71 s72 s73 s74 s75 s76 s77 s78 s79 s80 s81 s82 s83 s84 s85 s86 s87 s88 s89 s90 s91 s92 s93 s94 s95 s96 s97 s98 s99 s100 s101 s102 s103 s107 s108 s109 s110 s111 s112 s113 s114 s115 s116 s117 s118 s119 s120 s121 s122 s123 s124 s125 s126 s127 s128 s129 s130 s131 s132 s133 s134 s135 s136 s137 s138 s139 s140 s141 s142 s143 s144 s145 s146 s147 s148 s149 s150 s151 s152 s153 s154 s155 s156 s157 s158 s159 s160 s161 s162 s163 s164 s165 s166 s167 s168 s169 s170 s171 s172 s173 s174 s175 s176 s177 s178 s179 s180 s181 s182 s183 s184 s185 s186 s187 s188 s189 s190 s191 s192 s193 s194 s195 s196 s197 s198 s199 s200 s201 s202 s203 s204 s205 s206 s207 s208 s209 s210 s211 s212 : Value} {b n : Nat} {l : List Clk} {bs : List Brn} {al aB : Option Addr} {cl cB gy : Nat} {WA : World}
    (TP0 : Tp WA b n) (CL : ∀ W, Mv b n WA W → SlOf 5 RClk W al l) (fl : Fit l.length) (OF : ∀ W, Mv b n WA W → OffV W) (BR : ∀ W, Mv b n WA W → SlOf 3 RBrn W aB bs) (hbl : bs.length ≤ 2000)
    (Y : ∀ W, Mv b n WA W → ∀ k, k < 3 → ∃ (a : Option Addr) (q : List Lmt) (c : Nat), W.cell? ⟨gy, k, none⟩ = some (.slice a q.length c) ∧ (∀ W', Mv b n WA W' → SlOf 3 RLmt W' a q) ∧ Fit q.length)
    (h : ∀ (t8 t15 t16 t17 t18 t19 t20 t21 t22 t23 t24 t25 t26 t27 t28 t29 t31 t106 t107 t108 t109 t110 t111 t112 t113 t114 t115 t116 t117 t118 t119 t120 t121 t122 t123 t124 t125 t126 t127 t128 t129 t130 t131 t132 t133 t134 t135 t136 t137 t138 t139 t140 t141 t142 t143 t144 t145 t146 t147 t148 t149 t150 t151 t152 t153 t154 t155 t156 t157 t158 t159 t160 t161 t162 t163 t164 t165 t166 t167 t168 t169 t170 t171 t172 t173 t174 t175 t176 t177 t178 t179 t180 t181 t182 t183 t184 t185 t186 t187 t188 t189 t190 t191 t192 t193 t194 t195 t196 t197 t198 t199 t200 t201 t202 t203 t204 t205 t206 t207 t208 t209 t210 : Value) (wx : World), Mv b n WA wx → Q (.exit 2) { tmps := #[s0, s1, s2, .slice aB bs.length cB, s4, s5, s6, s7, t8, .pointer (some ⟨b, 0, none⟩), s10, s11, s12, .slice al l.length cl, s14, t15, t16, t17, t18, t19, t20, t21, t22, t23, t24, t25, t26, t27, t28, t29, s30, t31, s32, s33, s34, s35, s36, s37, s38, s39, s40, s41, s42, s43, s44, s45, s46, s47, s48, s49, s50, s51, s52, s53, s54, s55, s56, s57, s58, s59, s60, s61, s62, s63, s64, s65, s66, s67, s68, s69, s70, s71, s72, s73, s74, s75, s76, s77, s78, s79, s80, s81, s82, s83, s84, s85, s86, s87, s88, s89, s90, s91, s92, s93, s94, s95, s96, s97, s98, s99, s100, s101, s102, s103, .slice (some ⟨gy, 0, none⟩) 3 3, .int .i64 3, t106, t107, t108, t109, t110, t111, t112, t113, t114, t115, t116, t117, t118, t119, t120, t121, t122, t123, t124, t125, t126, t127, t128, t129, t130, t131, t132, t133, t134, t135, t136, t137, t138, t139, t140, t141, t142, t143, t144, t145, t146, t147, t148, t149, t150, t151, t152, t153, t154, t155, t156, t157, t158, t159, t160, t161, t162, t163, t164, t165, t166, t167, t168, t169, t170, t171, t172, t173, t174, t175, t176, t177, t178, t179, t180, t181, t182, t183, t184, t185, t186, t187, t188, t189, t190, t191, t192, t193, t194, t195, t196, t197, t198, t199, t200, t201, t202, t203, t204, t205, t206, t207, t208, t209, t210, s211, s212], defers := [] } wx) :
    (codeIn 2 Tryz.f3).wp Tryz.prog Q { tmps := #[s0, s1, s2, .slice aB bs.length cB, s4, s5, s6, s7, s8, .pointer (some ⟨b, 0, none⟩), s10, s11, s12, .slice al l.length cl, s14, s15, s16, s17, s18, s19, s20, s21, s22, s23, s24, s25, s26, s27, s28, s29, s30, s31, s32, s33, s34, s35, s36, s37, s38, s39, s40, s41, s42, s43, s44, s45, s46, s47, s48, s49, s50, s51, s52, s53, s54, s55, s56, s57, s58, s59, s60, s61, s62, s63, s64, s65, s66, s67, s68, s69, s70, s71, s72, s73, s74, s75, s76, s77, s78, s79, s80, s81, s82, s83, s84, s85, s86, s87, s88, s89, s90, s91, s92, s93, s94, s95, s96, s97, s98, s99, s100, s101, s102, s103, .slice (some ⟨gy, 0, none⟩) 3 3, .int .i64 3, .int .i64 0, s107, s108, s109, s110, s111, s112, s113, s114, s115, s116, s117, s118, s119, s120, s121, s122, s123, s124, s125, s126, s127, s128, s129, s130, s131, s132, s133, s134, s135, s136, s137, s138, s139, s140, s141, s142, s143, s144, s145, s146, s147, s148, s149, s150, s151, s152, s153, s154, s155, s156, s157, s158, s159, s160, s161, s162, s163, s164, s165, s166, s167, s168, s169, s170, s171, s172, s173, s174, s175, s176, s177, s178, s179, s180, s181, s182, s183, s184, s185, s186, s187, s188, s189, s190, s191, s192, s193, s194, s195, s196, s197, s198, s199, s200, s201, s202, s203, s204, s205, s206, s207, s208, s209, s210, s211, s212], defers := [] } WA := by
  have HQ := PLift.up h
  clear h
  simp only [codeIn, Tryz.f3, codeOf, Option.bind_some, Option.getD_some, Nat.beq, cond_true, cond_false]
  have TP := Lib.hid TP0
  have HBW := Lib.hid TP0.has
  have CL' := Lib.hid CL
  have OF' := Lib.hid OF
  have BR' := Lib.hid BR
  have YY := Lib.hid Y
  clear TP0 CL OF BR Y
  go_loopw [106] (fun s wi => ∃ j : Nat, j ≤ 3 ∧ s = .int .i64 j ∧ Mv b n WA wi) (fun s _ => 3 - (intOf s).toNat)
  case atStart => exact ⟨0, Nat.zero_le _, rfl, Mv.refl TP.out⟩
  case round =>
    obtain ⟨j, hj, rfl, hm⟩ := hrel
    have M0 := Lib.hid hm
    clear hm
    by_cases hl : j < 3
    · have j3 : (j : Int) < 3 := by omega
      obtain ⟨am, ms, cm, hc, hs, fm⟩ := YY.out wr M0.out j hl
      have hh := has_of_cell hc
      have E : Hid (∀ W, Mv b n WA W → GEnv W l ms al am) := Lib.hid (fun W hW => ⟨CL'.out W hW, fl, hs W hW, fm, OF'.out W hW⟩)
      clear hs
      have V1 := Lib.hid (fun W hW => solveG_any l ms al am cl cm W (E.out W hW))
      have V2 := Lib.hid (fun W hW => refSolveG_any l ms al am cl cm W (E.out W hW))
      have V3 := Lib.hid (fun W hW => countG_any l ms al am cl cm W (E.out W hW))
      have V4 := Lib.hid (fun W hW => refCountG_any l ms al am cl cm W (E.out W hW))
      have V5 := Lib.hid (fun W hW => leastG_any l ms al am cl cm W (E.out W hW))
      have V6 := Lib.hid (fun W hW => refLeastG_any l ms al am cl cm W (E.out W hW))
      have V7 := Lib.hid (fun W hW => refuteG_any l ms al am cl cm W (E.out W hW))
      have V8 := Lib.hid (fun W hW => refutableG_any l ms al am cl cm W (E.out W hW))
      have fxs : Fit (solL l ms).length := by have := sol_len l ms; unfold Fit at *; omega
      have fys : Fit (leL l ms).length := by have := le_len l ms; unfold Fit at *; omega
      obtain ⟨xs, hxs⟩ : ∃ xs, solL l ms = xs := ⟨_, rfl⟩
      obtain ⟨ys, hys⟩ : ∃ xs, leL l ms = xs := ⟨_, rfl⟩
      obtain ⟨se, hse⟩ : ∃ xs, solE l ms = xs := ⟨_, rfl⟩
      obtain ⟨re, hre⟩ : ∃ xs, rfE l ms = xs := ⟨_, rfl⟩
      obtain ⟨be, hbe⟩ : ∃ xs, bgE l ms = xs := ⟨_, rfl⟩
      obtain ⟨cn, hcn⟩ : ∃ xs, cntG l ms = xs := ⟨_, rfl⟩
      rw [hxs, hse] at V1 V2
      rw [hcn, hbe] at V3 V4
      rw [hys, hre] at V5 V6
      rw [hre] at V7 V8
      rw [hxs] at fxs
      rw [hys] at fys
      clear hxs hys hse hre hbe hcn
      go_wp2_with fail
      clear hc hh
      refine (V1.out wr M0.out).mono ?_
      rintro e w1 ⟨a1, c1, rfl, hs1, hg1⟩
      have M1 := Lib.hid (M0.out.gr hg1)
      have S1 := Lib.hid hs1
      clear hs1 hg1 V1
      go_wp2_with fail
      refine (V2.out w1 M1.out).mono ?_
      rintro e w2 ⟨a2, c2, rfl, hs2, hg2⟩
      have M2 := Lib.hid (M1.out.gr hg2)
      have S12 := Lib.hid (And.intro (S1.out.giI hg2) hs2)
      clear hs2 hg2 S1 V2 M1
      go_wp2_with fail
      refine (V3.out w2 M2.out).mono ?_
      rintro e w3 ⟨rfl, hg3⟩
      have M3 := Lib.hid (M2.out.gr hg3)
      have S13 := Lib.hid (And.intro (S12.out.1.giI hg3) (S12.out.2.giI hg3))
      clear hg3 V3 S12 M2
      go_wp2_with fail
      refine (V4.out w3 M3.out).mono ?_
      rintro e w4 ⟨rfl, hg4⟩
      have M4 := Lib.hid (M3.out.gr hg4)
      have S14 := Lib.hid (And.intro (S13.out.1.giI hg4) (S13.out.2.giI hg4))
      clear hg4 V4 S13 M3
      go_wp2_with fail
      refine (V5.out w4 M4.out).mono ?_
      rintro e w5 ⟨a3, c3, rfl, hs5, hg5⟩
      have M5 := Lib.hid (M4.out.gr hg5)
      have S15 := Lib.hid (And.intro (And.intro (S14.out.1.giI hg5) (S14.out.2.giI hg5)) hs5)
      clear hs5 hg5 V5 S14 M4
      go_wp2_with fail
      refine (V6.out w5 M5.out).mono ?_
      rintro e w6 ⟨a4, c4, rfl, hs6, hg6⟩
      have M6 := Lib.hid (M5.out.gr hg6)
      have S16 := Lib.hid (And.intro (And.intro (S15.out.1.1.giI hg6) (S15.out.1.2.giI hg6)) (And.intro (S15.out.2.giI hg6) hs6))
      clear hs6 hg6 V6 S15 M5
      go_wp2_with fail
      refine (V7.out w6 M6.out).mono ?_
      rintro e w7 ⟨r, ar, cr, rfl, hst, hrl, hrn, hg7⟩
      have M7 := Lib.hid (M6.out.gr hg7)
      have S17 := Lib.hid (And.intro (And.intro (S16.out.1.1.giI hg7) (S16.out.1.2.giI hg7)) (And.intro (S16.out.2.1.giI hg7) (S16.out.2.2.giI hg7)))
      have ST := Lib.hid (fun W hW => hst b n W (by have := M6.out.size; have := HBW.out; omega) hW)
      have RN := Lib.hid hrn
      have Z7 := Lib.hid (by have := M7.out.size; have := HBW.out; omega : b < w7.heap.size)
      clear hst hrn hg7 V7 S16
      go_wp2_with fail
      refine (V8.out w7 M7.out).mono ?_
      rintro e w8 ⟨rfl, hg8⟩
      have M8 := Lib.hid (M7.out.gr hg8)
      have S18 := Lib.hid (And.intro (And.intro (S17.out.1.1.giI hg8) (S17.out.1.2.giI hg8)) (And.intro (S17.out.2.1.giI hg8) (S17.out.2.2.giI hg8)))
      have M78 := Lib.hid (Mv.of_gr (M7.out.tp TP.out) hg8)
      clear hg8 V8 S17
      go_wp2_with fail
      refine (ints_any xs xs a1 a2 c1 c2 w8 S18.out.1.1 S18.out.1.2 fxs fxs).mono ?_
      rintro e w9 ⟨rfl, hg9⟩
      have M9 := Lib.hid (M8.out.gr hg9)
      have S19 := Lib.hid (And.intro (S18.out.2.1.giI hg9) (S18.out.2.2.giI hg9))
      have M79 := Lib.hid (M78.out.gr hg9)
      have dx : decide (xs = xs) = true := decide_eq_true rfl
      rw [dx]
      clear hg9 S18 M8 M78 dx
      go_wp2_with fail
      refine (ints_any ys ys a3 a4 c3 c4 w9 S19.out.1 S19.out.2 fys fys).mono ?_
      rintro e w10 ⟨rfl, hg10⟩
      have M10 := Lib.hid (M9.out.gr hg10)
      have M710 := Lib.hid (M79.out.gr hg10)
      have dy : decide (ys = ys) = true := decide_eq_true rfl
      rw [dy]
      clear hg10 S19 M9 M79 dy M7
      go_wp2_with fail
      refine (bentG_any w10 b n cr ar r (M10.out.tp TP.out) (ST.out w10 M710.out) hrl RN.out).mono ?_
      rintro e w11 ⟨q, aq, cq, rfl, hsq, hql, hm11⟩
      have M11 := Lib.hid (M10.out.trans HBW.out hm11)
      have R11 := Lib.hid (ST.out w11 (M710.out.trans Z7.out hm11))
      have Q11 := Lib.hid hsq
      clear hsq hm11 M10 M710 ST RN
      obtain ⟨W12, hW12⟩ : ∃ W12 : World, Hid (W12 = w11.alloc (.cells #[.slice aB bs.length cB, .slice ar r.length cr, .slice aq q.length cq] 25)) := ⟨_, Lib.hid rfl⟩
      have G12 : Hid (Gr w11 W12) := Lib.hid (by rw [hW12.out]; exact (Gr.refl _).alloc _)
      have R12 : Hid (Row W12 w11.heap.size 25 [.slice aB bs.length cB, .slice ar r.length cr, .slice aq q.length cq]) := Lib.hid (by rw [hW12.out]; exact Row.new _ _ _)
      go_wp2_with fail
      rw [← hW12.out]
      refine wp_code_eq (c := codeIn 4 Tryz.f3) (by kernel_rfl) (taB (gz := w11.heap.size) (E.out W12 (M11.out.gr G12.out)) (fun k hk => ?_) ?_)
      · have c0 := R12.out.cell 0 (by simp)
        have c1 := R12.out.cell 1 (by simp)
        have c2 := R12.out.cell 2 (by simp)
        obtain rfl | rfl | rfl : k = 0 ∨ k = 1 ∨ k = 2 := by omega
        · exact ⟨aB, bs, cB, c0, BR'.out W12 (M11.out.gr G12.out), by omega⟩
        · exact ⟨ar, r, cr, c1, R11.out.gr RBrn.mono G12.out, by omega⟩
        · exact ⟨aq, q, cq, c2, Q11.out.gr RBrn.mono G12.out, hql⟩
      intro t8 t31 t196 t197 t198 t199 t200 t201 t202 t203 t204 t205 t206 t207 t208 t209 wx hgx
      have MX := Lib.hid (M11.out.gr (G12.out.trans hgx))
      clear hgx
      go_wp2_with fail
      go_roundw
      case rel => exact ⟨j + 1, by omega, by simp, MX.out⟩
      case measure => simp [intOf]; omega
    · obtain rfl : j = 3 := by omega
      go_wp2_with fail
      exact HQ.down _ _ _ _ _ _ _ _ _ _ _ _ _ _ _ _ _ _ _ _ _ _ _ _ _ _ _ _ _ _ _ _ _ _ _ _ _ _ _ _ _ _ _ _ _ _ _ _ _ _ _ _ _ _ _ _ _ _ _ _ _ _ _ _ _ _ _ _ _ _ _ _ _ _ _ _ _ _ _ _ _ _ _ _ _ _ _ _ _ _ _ _ _ _ _ _ _ _ _ _ _ _ _ _ _ _ _ _ _ _ _ _ _ _ _ _ _ _ _ _ _ _ _ M0.out
end Go.Proofs.YtenehghpmnajpaaGreatDoor

set_option linter.unusedVariables false
set_option linter.unusedSimpArgs false
namespace Go.Proofs.YtenehghpmnajpaaGreatDoor
open Go.RowKit
open Classical
set_option maxRecDepth 100000 in
set_option maxHeartbeats 16000000 in
theorem taD {Q : Exit → Act → World → Prop} {s0 s1 s4 s5 s6 s7 s8 s12 s13 s14 s15 s16 s17 s18 s19 s20 s21 s22 s23 s24 s25 s26 s27 s28 s29 s30 s31 s32 s33 s34 s35 s36 s37 s38 s39 s40 s41 s42 s43 s44 s45 s46 s47 s48 s49 s50 s51 s52 s53 s54 s55 s56 s57 s58 s59 s60 s61 s62 s63 s64 s65 s66 s67 s68 s69 s70 s71 s72 s73 s74 s75 s76 s77 s78 s79 s80 s81 s82 s83 s84 s88 s89 s90 s91 s92 s93 s94 s95 s96 s97 s98 s99 s100 s101 s102 s103 s104 s105 s106 s107 s108 s109 s110 s111 s112 s113 s114 s115 s116 s117 s118 s119 s120 s121 s122 s123 s124 s125 s126 s127 s128 s129 s130 s131 s132 s133 s134 s135 s136 s137 s138 s139 s140 s141 s142 s143 s144 s145 s146 s147 s148 s149 s150 s151 s152 s153 s154 s155 s156 s157 s158 s159 s160 s161 s162 s163 s164 s165 s166 s167 s168 s169 s170 s171 s172 s173 s174 s175 s176 s177 s178 s179 s180 s181 s182 s183 s184 s185 s186 s187 s188 s189 s190 s191 s192 s193 s194 s195 s196 s197 s198 s199 s200 s201 s202 s203 s204 s205 s206 s207 s208 s209 s210 s211 s212 : Value} {b n nn : Nat} {ts : List CT} {m : List Lmt} {bs : List Brn} {aM aB an : Option Addr} {cM cB cn c g gx : Nat} {WA w4 : World}
    (TP0 : Tp WA b n) (OF : ∀ W, Mv b n WA W → OffV W) (BR : ∀ W, Mv b n WA W → SlOf 3 RBrn W aB bs) (hbl : bs.length ≤ 2000) (ML : ∀ W, Mv b n WA W → SlOf 3 RLmt W aM m) (fm : Fit m.length)
    (NL : LSt b n w4 an cn nn WA) (hb4 : b < w4.heap.size) (hnn : nn ≤ 4)
    (LM : ∀ W, Mv b n WA W → Calls Tryz.prog 11 #[.pointer (some ⟨b, 0, none⟩), .slice (some ⟨g, 0, none⟩) ts.length c, .int .i64 6] W (MakesLims b n 6 W (clks ts))) (htl : ts.length ≤ 16)
    (X : ∀ W, Mv b n WA W → ∀ k, k < 3 → ∃ (a : Option Addr) (q : List Clk) (c : Nat), W.cell? ⟨gx, k, none⟩ = some (.slice a q.length c) ∧ (∀ W', Mv b n WA W' → SlOf 5 RClk W' a q) ∧ Fit q.length)
    (h : ∀ (t8 t13 t15 t16 t17 t18 t19 t20 t21 t22 t23 t24 t25 t26 t27 t28 t29 t31 t87 t88 t89 t90 t91 t92 t93 t94 t95 t96 t97 t98 t99 t100 t101 t102 t103 t104 t105 t106 t107 t108 t109 t110 t111 t112 t113 t114 t115 t116 t117 t118 t119 t120 t121 t122 t123 t124 t125 t126 t127 t128 t129 t130 t131 t132 t133 t134 t135 t136 t137 t138 t139 t140 t141 t142 t143 t144 t145 t146 t147 t148 t149 t150 t151 t152 t153 t154 t155 t156 t157 t158 t159 t160 t161 t162 t163 t164 t165 t166 t167 t168 t169 t170 t171 t172 t173 t174 t175 t176 t177 t178 t179 t180 t181 t182 t183 t184 t185 t186 t187 t188 t189 t190 t191 t192 t193 t194 t195 t196 t197 t198 t199 t200 t201 t202 t203 t204 t205 t206 t207 t208 t209 t210 t211 : Value) (wx : World), Mv b n WA wx → Q (.exit 0) { tmps := #[s0, s1, .slice aM m.length cM, .slice aB bs.length cB, s4, s5, s6, s7, t8, .pointer (some ⟨b, 0, none⟩), .slice (some ⟨g, 0, none⟩) ts.length c, .slice an nn cn, s12, t13, s14, t15, t16, t17, t18, t19, t20, t21, t22, t23, t24, t25, t26, t27, t28, t29, s30, t31, s32, s33, s34, s35, s36, s37, s38, s39, s40, s41, s42, s43, s44, s45, s46, s47, s48, s49, s50, s51, s52, s53, s54, s55, s56, s57, s58, s59, s60, s61, s62, s63, s64, s65, s66, s67, s68, s69, s70, s71, s72, s73, s74, s75, s76, s77, s78, s79, s80, s81, s82, s83, s84, .slice (some ⟨gx, 0, none⟩) 3 3, .int .i64 3, t87, t88, t89, t90, t91, t92, t93, t94, t95, t96, t97, t98, t99, t100, t101, t102, t103, t104, t105, t106, t107, t108, t109, t110, t111, t112, t113, t114, t115, t116, t117, t118, t119, t120, t121, t122, t123, t124, t125, t126, t127, t128, t129, t130, t131, t132, t133, t134, t135, t136, t137, t138, t139, t140, t141, t142, t143, t144, t145, t146, t147, t148, t149, t150, t151, t152, t153, t154, t155, t156, t157, t158, t159, t160, t161, t162, t163, t164, t165, t166, t167, t168, t169, t170, t171, t172, t173, t174, t175, t176, t177, t178, t179, t180, t181, t182, t183, t184, t185, t186, t187, t188, t189, t190, t191, t192, t193, t194, t195, t196, t197, t198, t199, t200, t201, t202, t203, t204, t205, t206, t207, t208, t209, t210, t211, s212], defers := [] } wx) :
    (codeIn 0 Tryz.f3).wp Tryz.prog Q { tmps := #[s0, s1, .slice aM m.length cM, .slice aB bs.length cB, s4, s5, s6, s7, s8, .pointer (some ⟨b, 0, none⟩), .slice (some ⟨g, 0, none⟩) ts.length c, .slice an nn cn, s12, s13, s14, s15, s16, s17, s18, s19, s20, s21, s22, s23, s24, s25, s26, s27, s28, s29, s30, s31, s32, s33, s34, s35, s36, s37, s38, s39, s40, s41, s42, s43, s44, s45, s46, s47, s48, s49, s50, s51, s52, s53, s54, s55, s56, s57, s58, s59, s60, s61, s62, s63, s64, s65, s66, s67, s68, s69, s70, s71, s72, s73, s74, s75, s76, s77, s78, s79, s80, s81, s82, s83, s84, .slice (some ⟨gx, 0, none⟩) 3 3, .int .i64 3, .int .i64 0, s88, s89, s90, s91, s92, s93, s94, s95, s96, s97, s98, s99, s100, s101, s102, s103, s104, s105, s106, s107, s108, s109, s110, s111, s112, s113, s114, s115, s116, s117, s118, s119, s120, s121, s122, s123, s124, s125, s126, s127, s128, s129, s130, s131, s132, s133, s134, s135, s136, s137, s138, s139, s140, s141, s142, s143, s144, s145, s146, s147, s148, s149, s150, s151, s152, s153, s154, s155, s156, s157, s158, s159, s160, s161, s162, s163, s164, s165, s166, s167, s168, s169, s170, s171, s172, s173, s174, s175, s176, s177, s178, s179, s180, s181, s182, s183, s184, s185, s186, s187, s188, s189, s190, s191, s192, s193, s194, s195, s196, s197, s198, s199, s200, s201, s202, s203, s204, s205, s206, s207, s208, s209, s210, s211, s212], defers := [] } WA := by
  have HQ := PLift.up h
  clear h
  simp only [codeIn, Tryz.f3, codeOf, Option.bind_some, Option.getD_some, Nat.beq, cond_true, cond_false]
  have TP := Lib.hid TP0
  have HBW := Lib.hid TP0.has
  have OF' := Lib.hid OF
  have BR' := Lib.hid BR
  have ML' := Lib.hid ML
  have NL' := Lib.hid NL
  have LM' := Lib.hid LM
  have XX := Lib.hid X
  have HB4 := Lib.hid hb4
  clear TP0 OF BR ML NL LM X hb4
  go_loopw [87] (fun s wi => ∃ j : Nat, j ≤ 3 ∧ s = .int .i64 j ∧ Mv b n WA wi) (fun s _ => 3 - (intOf s).toNat)
  case atStart => exact ⟨0, Nat.zero_le _, rfl, Mv.refl TP.out⟩
  case round =>
    obtain ⟨j, hj, rfl, hm⟩ := hrel
    have M0 := Lib.hid hm
    clear hm
    by_cases hl : j < 3
    · have j3 : (j : Int) < 3 := by omega
      obtain ⟨al, l, cl, hc, hs, fl⟩ := XX.out wr M0.out j hl
      have hh := has_of_cell hc
      have CL := Lib.hid hs
      clear hs
      go_upto_region 11 with fail
      clear hc hh
      go_cut [98] from 88 to 211 (fun s98 wx => ∃ B : Bool, s98 = .bool B ∧ Mv b n WA wx)
      case first =>
        go_wp2_with fail
        refine (refCheck_any l al cl wr (CL.out wr M0.out) fl).mono ?_
        rintro e w1 ⟨rfl, hg1⟩
        have M1 := Lib.hid (M0.out.gr hg1)
        clear hg1 M0
        by_cases hc : cchk l = 0
        · have ST := Lib.hid (states17_any l al cl w1 (CL.out w1 M1.out) hc)
          have d0 : decide (cchk l = 0) = true := decide_eq_true hc
          rw [hc]
          clear d0
          go_wp2_with fail
          refine ST.out.mono ?_
          rintro e w2 ⟨rfl, hg2⟩
          have M2 := Lib.hid (M1.out.gr hg2)
          clear hg2 M1 ST
          go_wp2_with fail
          go_meet
          exact ⟨_, rfl, M2.out⟩
        · obtain ⟨ce, hce⟩ : ∃ ce, cchk l = ce := ⟨_, rfl⟩
          rw [hce] at hc ⊢
          have d0 : (ce == 0) = false := by simp [hc]
          go_wp2_with fail
          go_meet
          exact ⟨_, rfl, M1.out⟩
      case rest =>
      obtain ⟨B, rfl, hm1⟩ := hcut
      have M1 := Lib.hid hm1
      clear hm1 M0
      obtain ⟨w1, rfl⟩ : ∃ wo : World, wo = wc := ⟨_, rfl⟩
      cases B
      · go_wp2_with fail
        refine (LM'.out w1 M1.out).mono ?_
        rintro e w2 ⟨ns, v, rfl, ho, hnl, hnk, hm2⟩
        obtain ⟨a2, c2, rfl⟩ := owns_slice ho
        have M2 := Lib.hid (M1.out.trans HBW.out hm2)
        have L2 := Lib.hid (show LSt b n w1 a2 c2 ns.length w2 from ⟨ns, rfl, fun x hx => by
          obtain ⟨j, hj, rfl⟩ := List.getElem_of_mem hx
          obtain ⟨q1, q2, q3, q4⟩ := hnk j hj
          have := clks_len ts
          exact ⟨by unfold Wide; omega, by unfold Wide; omega, by unfold Wide; omega⟩, ho, hm2⟩)
        have Z1 := Lib.hid (by have := M1.out.size; have := HBW.out; omega : b < w1.heap.size)
        clear ho hnk hm2
        obtain ⟨W3, hW3⟩ : ∃ W3 : World, Hid (W3 = w2.alloc (.cells #[.slice aM m.length cM, .slice an nn cn, .slice a2 ns.length c2] 24)) := ⟨_, Lib.hid rfl⟩
        have G3 : Hid (Gr w2 W3) := Lib.hid (by rw [hW3.out]; exact (Gr.refl _).alloc _)
        have R3 : Hid (Row W3 w2.heap.size 24 [.slice aM m.length cM, .slice an nn cn, .slice a2 ns.length c2]) := Lib.hid (by rw [hW3.out]; exact Row.new _ _ _)
        have M3 := Lib.hid (M2.out.gr G3.out)
        go_wp2_with fail
        rw [← hW3.out]
        obtain ⟨us, eu, UU⟩ := (NL'.out.mvd HB4.out M3.out).sl
        obtain ⟨vs, ev, VV⟩ := (L2.out.gr G3.out).sl
        have U1 := Lib.hid UU
        have V1 := Lib.hid VV
        have eV := Lib.hid ev
        have eU := Lib.hid eu
        clear UU VV ev eu
        refine wp_code_eq (c := codeIn 2 Tryz.f3) (by kernel_rfl) (taC (gy := w2.heap.size) (WA := W3) (M3.out.tp TP.out) (fun W hW => CL.out W (M3.out.trans HBW.out hW)) fl (fun W hW => OF'.out W (M3.out.trans HBW.out hW)) (fun W hW => BR'.out W (M3.out.trans HBW.out hW)) hbl (fun W hW k hk => ?_) ?_)
        · have zb : b < w2.heap.size := by have := M2.out.size; have := HBW.out; omega
          have r := hW.row R3.out (by omega)
          have c0 := r.cell 0 (by simp)
          have c1 := r.cell 1 (by simp)
          have c2' := r.cell 2 (by simp)
          obtain rfl | rfl | rfl : k = 0 ∨ k = 1 ∨ k = 2 := by omega
          · exact ⟨aM, m, cM, c0, fun W' hW' => ML'.out W' (M3.out.trans HBW.out hW'), fm⟩
          · exact ⟨an, us, cn, by rw [eU.out]; exact c1, fun W' hW' => U1.out W' hW' HB4.out, by rw [eU.out]; unfold Fit; omega⟩
          · exact ⟨a2, vs, c2, by rw [eV.out]; exact c2', fun W' hW' => V1.out W' hW' Z1.out, by rw [eV.out]; unfold Fit; omega⟩
        intro t8 t15 t16 t17 t18 t19 t20 t21 t22 t23 t24 t25 t26 t27 t28 t29 t31 t106 t107 t108 t109 t110 t111 t112 t113 t114 t115 t116 t117 t118 t119 t120 t121 t122 t123 t124 t125 t126 t127 t128 t129 t130 t131 t132 t133 t134 t135 t136 t137 t138 t139 t140 t141 t142 t143 t144 t145 t146 t147 t148 t149 t150 t151 t152 t153 t154 t155 t156 t157 t158 t159 t160 t161 t162 t163 t164 t165 t166 t167 t168 t169 t170 t171 t172 t173 t174 t175 t176 t177 t178 t179 t180 t181 t182 t183 t184 t185 t186 t187 t188 t189 t190 t191 t192 t193 t194 t195 t196 t197 t198 t199 t200 t201 t202 t203 t204 t205 t206 t207 t208 t209 t210 wx hmx
        have MX := Lib.hid (M3.out.trans HBW.out hmx)
        clear hmx
        go_wp2_with fail
        go_roundw
        case rel => exact ⟨j + 1, by omega, by simp, MX.out⟩
        case measure => simp [intOf]; omega
      · go_wp2_with fail
        go_roundw
        case rel => exact ⟨j + 1, by omega, by simp, M1.out⟩
        case measure => simp [intOf]; omega
    · obtain rfl : j = 3 := by omega
      go_wp2_with fail
      exact HQ.down _ _ _ _ _ _ _ _ _ _ _ _ _ _ _ _ _ _ _ _ _ _ _ _ _ _ _ _ _ _ _ _ _ _ _ _ _ _ _ _ _ _ _ _ _ _ _ _ _ _ _ _ _ _ _ _ _ _ _ _ _ _ _ _ _ _ _ _ _ _ _ _ _ _ _ _ _ _ _ _ _ _ _ _ _ _ _ _ _ _ _ _ _ _ _ _ _ _ _ _ _ _ _ _ _ _ _ _ _ _ _ _ _ _ _ _ _ _ _ _ _ _ _ _ _ _ _ _ _ _ _ _ _ _ _ _ _ _ _ _ _ _ _ _ M0.out
end Go.Proofs.YtenehghpmnajpaaGreatDoor
