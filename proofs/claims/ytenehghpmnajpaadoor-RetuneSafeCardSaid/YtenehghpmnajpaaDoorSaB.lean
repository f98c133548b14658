/- A statement of RetuneSafe by an invariant (printed by wip/tools/sa.py). -/
import Derived.Test.YtenehghpmnajpaaDoorPtC
set_option linter.unusedVariables false
set_option linter.unusedSimpArgs false
namespace Go.Proofs.YtenehghpmnajpaaDoor
open Go.RowKit
open Classical

/-- What is known of each slot as soon as its operation is done. -/
def s32F (wr : World) (l : List Clk) (y : List Int) (u v i NN nn : Nat) (al aA : Option Addr) (cl cA cx cp cy bp op gy B : Nat) (t25 t26 t174 t175 t176 t177 t178 t179 t180 t181 t182 t183 t184 t185 t186 t187 t188 t189 t190 t191 t192 t193 t194 t195 t196 : Value) (d : Array Bool) (w : World) : Prop :=
  Gr wr w ∧ (d.getD 0 false = true → t175 = .slice al nn cl) ∧
  (d.getD 1 false = true → t176 = .slice aA nn cA) ∧
  (d.getD 2 false = true → t177 = .slice (some ⟨bp, op, none⟩) NN cp) ∧
  (d.getD 3 false = true → t178 = .int .i64 (i : Int)) ∧
  (d.getD 4 false = true → t179 = .pointer (some ⟨bp, op + i * 3, none⟩)) ∧
  (d.getD 5 false = true → t180 = .pointer (some ⟨bp, op + i * 3 + 1, none⟩)) ∧
  (d.getD 6 false = true → t181 = .int .i64 (u : Int)) ∧
  (d.getD 7 false = true → t182 = .slice (some ⟨gy, 0, none⟩) (NN + 1) cy) ∧
  (d.getD 8 false = true → t183 = .int .i64 (i : Int)) ∧
  (d.getD 9 false = true → t184 = .pointer (some ⟨gy, i, none⟩)) ∧
  (d.getD 10 false = true → t185 = .slice (some ⟨B, 0, none⟩) nn cx) ∧
  (d.getD 11 false = true → t186 = .slice (some ⟨bp, op, none⟩) NN cp) ∧
  (d.getD 12 false = true → t187 = .int .i64 (i : Int)) ∧
  (d.getD 13 false = true → t188 = .pointer (some ⟨bp, op + i * 3, none⟩)) ∧
  (d.getD 14 false = true → t189 = .pointer (some ⟨bp, op + i * 3 + 1, none⟩)) ∧
  (d.getD 15 false = true → t190 = .int .i64 (u : Int)) ∧
  (d.getD 16 false = true → t191 = .pointer (some ⟨B, u, none⟩)) ∧
  (d.getD 17 false = true → t192 = .int .i64 (v : Int)) ∧
  (d.getD 18 false = true → t193 = .agg #[.int .i64 1, .int .i64 (u : Int), .int .i64 (v : Int)]) ∧
  (d.getD 19 false = true → (∃ z, t194 = .tuple #[z, .int .i64 0] ∧ SetV wr nn (y.set u (v : Int)) w z)) ∧
  (d.getD 20 false = true → (∃ z, t174 = .tuple #[z, .int .i64 0] ∧ SetV wr nn (y.set u (v : Int)) w z)) ∧
  (d.getD 21 false = true → SetV wr nn (y.set u (v : Int)) w t195) ∧
  (d.getD 22 false = true → t196 = .int .i64 0) ∧
  (d.getD 23 false = true → SetV wr nn (y.set u (v : Int)) w t25) ∧
  (d.getD 24 false = true → t26 = .int .i64 0)
/-- The frame. -/
def s32A (i NN nn : Nat) (al aA : Option Addr) (cl cA cp cy bp op gy : Nat) (t25 t26 t174 t175 t176 t177 t178 t179 t180 t181 t182 t183 t184 t185 t186 t187 t188 t189 t190 t191 t192 t193 t194 t195 t196 s0 s1 s2 s3 s5 s6 s7 s8 s10 s11 s12 s14 s15 s16 s17 s18 s19 s20 s21 s22 s27 s28 s29 s30 s31 s32 s33 s34 s35 s36 s37 s38 s39 s40 s41 s42 s43 s44 s45 s46 s47 s48 s49 s50 s51 s52 s53 s54 s55 s56 s57 s58 s59 s60 s61 s62 s63 s64 s65 s66 s67 s68 s69 s70 s71 s72 s73 s74 s75 s76 s77 s78 s79 s80 s81 s82 s83 s84 s85 s86 s87 s88 s89 s90 s91 s92 s93 s94 s95 s96 s97 s98 s99 s100 s101 s102 s103 s104 s105 s106 s107 s108 s109 s110 s111 s112 s113 s114 s115 s116 s117 s118 s119 s120 s121 s122 s123 s124 s125 s126 s127 s128 s129 s130 s131 s132 s133 s134 s135 s136 s137 s138 s139 s140 s141 s142 s143 s144 s145 s146 s147 s148 s149 s150 s151 s152 s153 s154 s155 s156 s157 s158 s159 s160 s161 s162 s163 s164 s165 s166 s167 s168 s169 s170 s171 s172 s173 s197 s198 s199 s200 s201 s202 s203 s204 s205 s206 s207 s208 s209 : Value) : Act := { tmps := #[s0, s1, s2, s3, .slice al nn cl, s5, s6, s7, s8, .slice (some ⟨bp, op, none⟩) NN cp, s10, s11, s12, .slice (some ⟨gy, 0, none⟩) (NN + 1) cy, s14, s15, s16, s17, s18, s19, s20, s21, s22, .slice aA nn cA, .int .i64 (i : Int), t25, t26, s27, s28, s29, s30, s31, s32, s33, s34, s35, s36, s37, s38, s39, s40, s41, s42, s43, s44, s45, s46, s47, s48, s49, s50, s51, s52, s53, s54, s55, s56, s57, s58, s59, s60, s61, s62, s63, s64, s65, s66, s67, s68, s69, s70, s71, s72, s73, s74, s75, s76, s77, s78, s79, s80, s81, s82, s83, s84, s85, s86, s87, s88, s89, s90, s91, s92, s93, s94, s95, s96, s97, s98, s99, s100, s101, s102, s103, s104, s105, s106, s107, s108, s109, s110, s111, s112, s113, s114, s115, s116, s117, s118, s119, s120, s121, s122, s123, s124, s125, s126, s127, s128, s129, s130, s131, s132, s133, s134, s135, s136, s137, s138, s139, s140, s141, s142, s143, s144, s145, s146, s147, s148, s149, s150, s151, s152, s153, s154, s155, s156, s157, s158, s159, s160, s161, s162, s163, s164, s165, s166, s167, s168, s169, s170, s171, s172, s173, t174, t175, t176, t177, t178, t179, t180, t181, t182, t183, t184, t185, t186, t187, t188, t189, t190, t191, t192, t193, t194, t195, t196, s197, s198, s199, s200, s201, s202, s203, s204, s205, s206, s207, s208, s209], defers := [] }

set_option maxRecDepth 100000 in
set_option maxHeartbeats 4000000 in
theorem s32 {Q : Exit → Act → World → Prop} {wr : World} {l : List Clk} {y : List Int} {u v i NN nn : Nat} {al aA : Option Addr} {cl cA cx cp cy bp op gy B : Nat}  {s0 s1 s2 s3 s5 s6 s7 s8 s10 s11 s12 s14 s15 s16 s17 s18 s19 s20 s21 s22 s25 s26 s27 s28 s29 s30 s31 s32 s33 s34 s35 s36 s37 s38 s39 s40 s41 s42 s43 s44 s45 s46 s47 s48 s49 s50 s51 s52 s53 s54 s55 s56 s57 s58 s59 s60 s61 s62 s63 s64 s65 s66 s67 s68 s69 s70 s71 s72 s73 s74 s75 s76 s77 s78 s79 s80 s81 s82 s83 s84 s85 s86 s87 s88 s89 s90 s91 s92 s93 s94 s95 s96 s97 s98 s99 s100 s101 s102 s103 s104 s105 s106 s107 s108 s109 s110 s111 s112 s113 s114 s115 s116 s117 s118 s119 s120 s121 s122 s123 s124 s125 s126 s127 s128 s129 s130 s131 s132 s133 s134 s135 s136 s137 s138 s139 s140 s141 s142 s143 s144 s145 s146 s147 s148 s149 s150 s151 s152 s153 s154 s155 s156 s157 s158 s159 s160 s161 s162 s163 s164 s165 s166 s167 s168 s169 s170 s171 s172 s173 s174 s175 s176 s177 s178 s179 s180 s181 s182 s183 s184 s185 s186 s187 s188 s189 s190 s191 s192 s193 s194 s195 s196 s197 s198 s199 s200 s201 s202 s203 s204 s205 s206 s207 s208 s209 : Value} (he : SlOf 5 RClk wr al l) (hc : cchk l = 0) (hset : SetOk l y) (sA : SlOf 1 RI wr aA y) (hnl : l.length = nn) (hp : wr.cell? ⟨bp, op + i * 3 + 1, none⟩ = some (.int .i64 (u : Int))) (hq : wr.cell? ⟨gy, i, none⟩ = some (.slice (some ⟨B, 0, none⟩) nn cx)) (hx : wr.cell? ⟨B, u, none⟩ = some (.int .i64 (v : Int))) (hu : u < l.length) (hv : (v : Int) < kOf l u) (hi : i < NN) (hN : NN ≤ 4096) (hun : u < nn)
    (h' : ∀ t174 t175 t176 t177 t178 t179 t180 t181 t182 t183 t184 t185 t186 t187 t188 t189 t190 t191 t192 t193 t194 t195 t196 B2 c2 wx, Gr wr wx → RowS wx B2 3 (nums (y.set u (v : Int))) → wr.heap.size ≤ B2 → Q .normal (s32A i NN nn al aA cl cA cp cy bp op gy (.slice (some ⟨B2, 0, none⟩) nn c2) (.int .i64 0) t174 t175 t176 t177 t178 t179 t180 t181 t182 t183 t184 t185 t186 t187 t188 t189 t190 t191 t192 t193 t194 t195 t196 s0 s1 s2 s3 s5 s6 s7 s8 s10 s11 s12 s14 s15 s16 s17 s18 s19 s20 s21 s22 s27 s28 s29 s30 s31 s32 s33 s34 s35 s36 s37 s38 s39 s40 s41 s42 s43 s44 s45 s46 s47 s48 s49 s50 s51 s52 s53 s54 s55 s56 s57 s58 s59 s60 s61 s62 s63 s64 s65 s66 s67 s68 s69 s70 s71 s72 s73 s74 s75 s76 s77 s78 s79 s80 s81 s82 s83 s84 s85 s86 s87 s88 s89 s90 s91 s92 s93 s94 s95 s96 s97 s98 s99 s100 s101 s102 s103 s104 s105 s106 s107 s108 s109 s110 s111 s112 s113 s114 s115 s116 s117 s118 s119 s120 s121 s122 s123 s124 s125 s126 s127 s128 s129 s130 s131 s132 s133 s134 s135 s136 s137 s138 s139 s140 s141 s142 s143 s144 s145 s146 s147 s148 s149 s150 s151 s152 s153 s154 s155 s156 s157 s158 s159 s160 s161 s162 s163 s164 s165 s166 s167 s168 s169 s170 s171 s172 s173 s197 s198 s199 s200 s201 s202 s203 s204 s205 s206 s207 s208 s209) wx) :
    (Code.region 32 (regIn 32 Tryd.f6) true).wp Tryd.prog Q { tmps := #[s0, s1, s2, s3, .slice al nn cl, s5, s6, s7, s8, .slice (some ⟨bp, op, none⟩) NN cp, s10, s11, s12, .slice (some ⟨gy, 0, none⟩) (NN + 1) cy, s14, s15, s16, s17, s18, s19, s20, s21, s22, .slice aA nn cA, .int .i64 (i : Int), s25, s26, s27, s28, s29, s30, s31, s32, s33, s34, s35, s36, s37, s38, s39, s40, s41, s42, s43, s44, s45, s46, s47, s48, s49, s50, s51, s52, s53, s54, s55, s56, s57, s58, s59, s60, s61, s62, s63, s64, s65, s66, s67, s68, s69, s70, s71, s72, s73, s74, s75, s76, s77, s78, s79, s80, s81, s82, s83, s84, s85, s86, s87, s88, s89, s90, s91, s92, s93, s94, s95, s96, s97, s98, s99, s100, s101, s102, s103, s104, s105, s106, s107, s108, s109, s110, s111, s112, s113, s114, s115, s116, s117, s118, s119, s120, s121, s122, s123, s124, s125, s126, s127, s128, s129, s130, s131, s132, s133, s134, s135, s136, s137, s138, s139, s140, s141, s142, s143, s144, s145, s146, s147, s148, s149, s150, s151, s152, s153, s154, s155, s156, s157, s158, s159, s160, s161, s162, s163, s164, s165, s166, s167, s168, s169, s170, s171, s172, s173, s174, s175, s176, s177, s178, s179, s180, s181, s182, s183, s184, s185, s186, s187, s188, s189, s190, s191, s192, s193, s194, s195, s196, s197, s198, s199, s200, s201, s202, s203, s204, s205, s206, s207, s208, s209], defers := [] } wr := by
  have HE := PLift.up he
  have HT := PLift.up hset
  have HC := PLift.up hc
  have SA := PLift.up sA
  clear he hset hc sA
  simp only [regIn, Tryd.f6, regOps, Option.bind_some, Option.getD_some, Nat.beq, cond_true, cond_false]
  refine wp_region_steps (fun done a w => ∃ t25 t26 t174 t175 t176 t177 t178 t179 t180 t181 t182 t183 t184 t185 t186 t187 t188 t189 t190 t191 t192 t193 t194 t195 t196, a = s32A i NN nn al aA cl cA cp cy bp op gy t25 t26 t174 t175 t176 t177 t178 t179 t180 t181 t182 t183 t184 t185 t186 t187 t188 t189 t190 t191 t192 t193 t194 t195 t196 s0 s1 s2 s3 s5 s6 s7 s8 s10 s11 s12 s14 s15 s16 s17 s18 s19 s20 s21 s22 s27 s28 s29 s30 s31 s32 s33 s34 s35 s36 s37 s38 s39 s40 s41 s42 s43 s44 s45 s46 s47 s48 s49 s50 s51 s52 s53 s54 s55 s56 s57 s58 s59 s60 s61 s62 s63 s64 s65 s66 s67 s68 s69 s70 s71 s72 s73 s74 s75 s76 s77 s78 s79 s80 s81 s82 s83 s84 s85 s86 s87 s88 s89 s90 s91 s92 s93 s94 s95 s96 s97 s98 s99 s100 s101 s102 s103 s104 s105 s106 s107 s108 s109 s110 s111 s112 s113 s114 s115 s116 s117 s118 s119 s120 s121 s122 s123 s124 s125 s126 s127 s128 s129 s130 s131 s132 s133 s134 s135 s136 s137 s138 s139 s140 s141 s142 s143 s144 s145 s146 s147 s148 s149 s150 s151 s152 s153 s154 s155 s156 s157 s158 s159 s160 s161 s162 s163 s164 s165 s166 s167 s168 s169 s170 s171 s172 s173 s197 s198 s199 s200 s201 s202 s203 s204 s205 s206 s207 s208 s209 ∧ s32F wr l y u v i NN nn al aA cl cA cx cp cy bp op gy B t25 t26 t174 t175 t176 t177 t178 t179 t180 t181 t182 t183 t184 t185 t186 t187 t188 t189 t190 t191 t192 t193 t194 t195 t196 done w) (by kernel_rfl) (by kernel_rfl) ?_ ⟨?_, ?_, ?_, ?_, ?_, ?_, ?_, ?_, ?_, ?_, ?_, ?_, ?_, ?_, ?_, ?_, ?_, ?_, ?_, ?_, ?_, ?_, ?_, ?_, ?_, trivial⟩ ?_
  · exact ⟨s25, s26, s174, s175, s176, s177, s178, s179, s180, s181, s182, s183, s184, s185, s186, s187, s188, s189, s190, s191, s192, s193, s194, s195, s196, rfl, (Gr.refl _).drew, fun q => absurd q (by decide), fun q => absurd q (by decide), fun q => absurd q (by decide), fun q => absurd q (by decide), fun q => absurd q (by decide), fun q => absurd q (by decide), fun q => absurd q (by decide), fun q => absurd q (by decide), fun q => absurd q (by decide), fun q => absurd q (by decide), fun q => absurd q (by decide), fun q => absurd q (by decide), fun q => absurd q (by decide), fun q => absurd q (by decide), fun q => absurd q (by decide), fun q => absurd q (by decide), fun q => absurd q (by decide), fun q => absurd q (by decide), fun q => absurd q (by decide), fun q => absurd q (by decide), fun q => absurd q (by decide), fun q => absurd q (by decide), fun q => absurd q (by decide), fun q => absurd q (by decide), fun q => absurd q (by decide)⟩
  · rintro done a w hsz hnot hdep ⟨t25, t26, t174, t175, t176, t177, t178, t179, t180, t181, t182, t183, t184, t185, t186, t187, t188, t189, t190, t191, t192, t193, t194, t195, t196, rfl, gw, f0, f1, f2, f3, f4, f5, f6, f7, f8, f9, f10, f11, f12, f13, f14, f15, f16, f17, f18, f19, f20, f21, f22, f23, f24⟩ K hK
    have hn : ¬ done.getD 0 false = true := by rw [getD_both hnot]; decide
    have HK := PLift.up hK
    clear hK 
    simp only [s32A]
    go_simp
    have gg : Gr w w := Gr.refl _
    refine HK.down _ _ ⟨_, _, _, _, _, _, _, _, _, _, _, _, _, _, _, _, _, _, _, _, _, _, _, _, _, rfl, gw, fun _ => rfl, fun q => f1 (done_old q (by decide)), fun q => f2 (done_old q (by decide)), fun q => f3 (done_old q (by decide)), fun q => f4 (done_old q (by decide)), fun q => f5 (done_old q (by decide)), fun q => f6 (done_old q (by decide)), fun q => f7 (done_old q (by decide)), fun q => f8 (done_old q (by decide)), fun q => f9 (done_old q (by decide)), fun q => f10 (done_old q (by decide)), fun q => f11 (done_old q (by decide)), fun q => f12 (done_old q (by decide)), fun q => f13 (done_old q (by decide)), fun q => f14 (done_old q (by decide)), fun q => f15 (done_old q (by decide)), fun q => f16 (done_old q (by decide)), fun q => f17 (done_old q (by decide)), fun q => f18 (done_old q (by decide)), fun q => (let ⟨z, e, h2⟩ := f19 (done_old q (by decide)); ⟨z, e, h2.gr gg⟩), fun q => (let ⟨z, e, h2⟩ := f20 (done_old q (by decide)); ⟨z, e, h2.gr gg⟩), fun q => (f21 (done_old q (by decide))).gr gg, fun q => f22 (done_old q (by decide)), fun q => (f23 (done_old q (by decide))).gr gg, fun q => f24 (done_old q (by decide))⟩
  · rintro done a w hsz hnot hdep ⟨t25, t26, t174, t175, t176, t177, t178, t179, t180, t181, t182, t183, t184, t185, t186, t187, t188, t189, t190, t191, t192, t193, t194, t195, t196, rfl, gw, f0, f1, f2, f3, f4, f5, f6, f7, f8, f9, f10, f11, f12, f13, f14, f15, f16, f17, f18, f19, f20, f21, f22, f23, f24⟩ K hK
    have hn : ¬ done.getD 1 false = true := by rw [getD_both hnot]; decide
    have HK := PLift.up hK
    clear hK 
    simp only [s32A]
    go_simp
    have gg : Gr w w := Gr.refl _
    refine HK.down _ _ ⟨_, _, _, _, _, _, _, _, _, _, _, _, _, _, _, _, _, _, _, _, _, _, _, _, _, rfl, gw, fun q => f0 (done_old q (by decide)), fun _ => rfl, fun q => f2 (done_old q (by decide)), fun q => f3 (done_old q (by decide)), fun q => f4 (done_old q (by decide)), fun q => f5 (done_old q (by decide)), fun q => f6 (done_old q (by decide)), fun q => f7 (done_old q (by decide)), fun q => f8 (done_old q (by decide)), fun q => f9 (done_old q (by decide)), fun q => f10 (done_old q (by decide)), fun q => f11 (done_old q (by decide)), fun q => f12 (done_old q (by decide)), fun q => f13 (done_old q (by decide)), fun q => f14 (done_old q (by decide)), fun q => f15 (done_old q (by decide)), fun q => f16 (done_old q (by decide)), fun q => f17 (done_old q (by decide)), fun q => f18 (done_old q (by decide)), fun q => (let ⟨z, e, h2⟩ := f19 (done_old q (by decide)); ⟨z, e, h2.gr gg⟩), fun q => (let ⟨z, e, h2⟩ := f20 (done_old q (by decide)); ⟨z, e, h2.gr gg⟩), fun q => (f21 (done_old q (by decide))).gr gg, fun q => f22 (done_old q (by decide)), fun q => (f23 (done_old q (by decide))).gr gg, fun q => f24 (done_old q (by decide))⟩
  · rintro done a w hsz hnot hdep ⟨t25, t26, t174, t175, t176, t177, t178, t179, t180, t181, t182, t183, t184, t185, t186, t187, t188, t189, t190, t191, t192, t193, t194, t195, t196, rfl, gw, f0, f1, f2, f3, f4, f5, f6, f7, f8, f9, f10, f11, f12, f13, f14, f15, f16, f17, f18, f19, f20, f21, f22, f23, f24⟩ K hK
    have hn : ¬ done.getD 2 false = true := by rw [getD_both hnot]; decide
    have HK := PLift.up hK
    clear hK 
    simp only [s32A]
    go_simp
    have gg : Gr w w := Gr.refl _
    refine HK.down _ _ ⟨_, _, _, _, _, _, _, _, _, _, _, _, _, _, _, _, _, _, _, _, _, _, _, _, _, rfl, gw, fun q => f0 (done_old q (by decide)), fun q => f1 (done_old q (by decide)), fun _ => rfl, fun q => f3 (done_old q (by decide)), fun q => f4 (done_old q (by decide)), fun q => f5 (done_old q (by decide)), fun q => f6 (done_old q (by decide)), fun q => f7 (done_old q (by decide)), fun q => f8 (done_old q (by decide)), fun q => f9 (done_old q (by decide)), fun q => f10 (done_old q (by decide)), fun q => f11 (done_old q (by decide)), fun q => f12 (done_old q (by decide)), fun q => f13 (done_old q (by decide)), fun q => f14 (done_old q (by decide)), fun q => f15 (done_old q (by decide)), fun q => f16 (done_old q (by decide)), fun q => f17 (done_old q (by decide)), fun q => f18 (done_old q (by decide)), fun q => (let ⟨z, e, h2⟩ := f19 (done_old q (by decide)); ⟨z, e, h2.gr gg⟩), fun q => (let ⟨z, e, h2⟩ := f20 (done_old q (by decide)); ⟨z, e, h2.gr gg⟩), fun q => (f21 (done_old q (by decide))).gr gg, fun q => f22 (done_old q (by decide)), fun q => (f23 (done_old q (by decide))).gr gg, fun q => f24 (done_old q (by decide))⟩
  · rintro done a w hsz hnot hdep ⟨t25, t26, t174, t175, t176, t177, t178, t179, t180, t181, t182, t183, t184, t185, t186, t187, t188, t189, t190, t191, t192, t193, t194, t195, t196, rfl, gw, f0, f1, f2, f3, f4, f5, f6, f7, f8, f9, f10, f11, f12, f13, f14, f15, f16, f17, f18, f19, f20, f21, f22, f23, f24⟩ K hK
    have hn : ¬ done.getD 3 false = true := by rw [getD_both hnot]; decide
    have HK := PLift.up hK
    clear hK 
    simp only [s32A]
    go_simp
    have gg : Gr w w := Gr.refl _
    refine HK.down _ _ ⟨_, _, _, _, _, _, _, _, _, _, _, _, _, _, _, _, _, _, _, _, _, _, _, _, _, rfl, gw, fun q => f0 (done_old q (by decide)), fun q => f1 (done_old q (by decide)), fun q => f2 (done_old q (by decide)), fun _ => rfl, fun q => f4 (done_old q (by decide)), fun q => f5 (done_old q (by decide)), fun q => f6 (done_old q (by decide)), fun q => f7 (done_old q (by decide)), fun q => f8 (done_old q (by decide)), fun q => f9 (done_old q (by decide)), fun q => f10 (done_old q (by decide)), fun q => f11 (done_old q (by decide)), fun q => f12 (done_old q (by decide)), fun q => f13 (done_old q (by decide)), fun q => f14 (done_old q (by decide)), fun q => f15 (done_old q (by decide)), fun q => f16 (done_old q (by decide)), fun q => f17 (done_old q (by decide)), fun q => f18 (done_old q (by decide)), fun q => (let ⟨z, e, h2⟩ := f19 (done_old q (by decide)); ⟨z, e, h2.gr gg⟩), fun q => (let ⟨z, e, h2⟩ := f20 (done_old q (by decide)); ⟨z, e, h2.gr gg⟩), fun q => (f21 (done_old q (by decide))).gr gg, fun q => f22 (done_old q (by decide)), fun q => (f23 (done_old q (by decide))).gr gg, fun q => f24 (done_old q (by decide))⟩
  · rintro done a w hsz hnot hdep ⟨t25, t26, t174, t175, t176, t177, t178, t179, t180, t181, t182, t183, t184, t185, t186, t187, t188, t189, t190, t191, t192, t193, t194, t195, t196, rfl, gw, f0, f1, f2, f3, f4, f5, f6, f7, f8, f9, f10, f11, f12, f13, f14, f15, f16, f17, f18, f19, f20, f21, f22, f23, f24⟩ K hK
    have hn : ¬ done.getD 4 false = true := by rw [getD_both hnot]; decide
    have d2 := hdep 2 (by kernel_rfl)
    have d3 := hdep 3 (by kernel_rfl)
    obtain rfl := f2 d2
    obtain rfl := f3 d3
    have q0 := cell_gr gw hp
    have hh := has_of_cell q0
    have kk : (i : Int) < (NN : Int) := by omega
    have HK := PLift.up hK
    clear hK d2 d3
    simp only [s32A]
    go_simp
    have gg : Gr w w := Gr.refl _
    refine HK.down _ _ ⟨_, _, _, _, _, _, _, _, _, _, _, _, _, _, _, _, _, _, _, _, _, _, _, _, _, rfl, gw, fun q => f0 (done_old q (by decide)), fun q => f1 (done_old q (by decide)), fun q => f2 (done_old q (by decide)), fun q => f3 (done_old q (by decide)), fun _ => rfl, fun q => f5 (done_old q (by decide)), fun q => f6 (done_old q (by decide)), fun q => f7 (done_old q (by decide)), fun q => f8 (done_old q (by decide)), fun q => f9 (done_old q (by decide)), fun q => f10 (done_old q (by decide)), fun q => f11 (done_old q (by decide)), fun q => f12 (done_old q (by decide)), fun q => f13 (done_old q (by decide)), fun q => f14 (done_old q (by decide)), fun q => f15 (done_old q (by decide)), fun q => f16 (done_old q (by decide)), fun q => f17 (done_old q (by decide)), fun q => f18 (done_old q (by decide)), fun q => (let ⟨z, e, h2⟩ := f19 (done_old q (by decide)); ⟨z, e, h2.gr gg⟩), fun q => (let ⟨z, e, h2⟩ := f20 (done_old q (by decide)); ⟨z, e, h2.gr gg⟩), fun q => (f21 (done_old q (by decide))).gr gg, fun q => f22 (done_old q (by decide)), fun q => (f23 (done_old q (by decide))).gr gg, fun q => f24 (done_old q (by decide))⟩
  · rintro done a w hsz hnot hdep ⟨t25, t26, t174, t175, t176, t177, t178, t179, t180, t181, t182, t183, t184, t185, t186, t187, t188, t189, t190, t191, t192, t193, t194, t195, t196, rfl, gw, f0, f1, f2, f3, f4, f5, f6, f7, f8, f9, f10, f11, f12, f13, f14, f15, f16, f17, f18, f19, f20, f21, f22, f23, f24⟩ K hK
    have hn : ¬ done.getD 5 false = true := by rw [getD_both hnot]; decide
    have d4 := hdep 4 (by kernel_rfl)
    obtain rfl := f4 d4
    have HK := PLift.up hK
    clear hK d4
    simp only [s32A]
    go_simp
    have gg : Gr w w := Gr.refl _
    refine HK.down _ _ ⟨_, _, _, _, _, _, _, _, _, _, _, _, _, _, _, _, _, _, _, _, _, _, _, _, _, rfl, gw, fun q => f0 (done_old q (by decide)), fun q => f1 (done_old q (by decide)), fun q => f2 (done_old q (by decide)), fun q => f3 (done_old q (by decide)), fun q => f4 (done_old q (by decide)), fun _ => rfl, fun q => f6 (done_old q (by decide)), fun q => f7 (done_old q (by decide)), fun q => f8 (done_old q (by decide)), fun q => f9 (done_old q (by decide)), fun q => f10 (done_old q (by decide)), fun q => f11 (done_old q (by decide)), fun q => f12 (done_old q (by decide)), fun q => f13 (done_old q (by decide)), fun q => f14 (done_old q (by decide)), fun q => f15 (done_old q (by decide)), fun q => f16 (done_old q (by decide)), fun q => f17 (done_old q (by decide)), fun q => f18 (done_old q (by decide)), fun q => (let ⟨z, e, h2⟩ := f19 (done_old q (by decide)); ⟨z, e, h2.gr gg⟩), fun q => (let ⟨z, e, h2⟩ := f20 (done_old q (by decide)); ⟨z, e, h2.gr gg⟩), fun q => (f21 (done_old q (by decide))).gr gg, fun q => f22 (done_old q (by decide)), fun q => (f23 (done_old q (by decide))).gr gg, fun q => f24 (done_old q (by decide))⟩
  · rintro done a w hsz hnot hdep ⟨t25, t26, t174, t175, t176, t177, t178, t179, t180, t181, t182, t183, t184, t185, t186, t187, t188, t189, t190, t191, t192, t193, t194, t195, t196, rfl, gw, f0, f1, f2, f3, f4, f5, f6, f7, f8, f9, f10, f11, f12, f13, f14, f15, f16, f17, f18, f19, f20, f21, f22, f23, f24⟩ K hK
    have hn : ¬ done.getD 6 false = true := by rw [getD_both hnot]; decide
    have d5 := hdep 5 (by kernel_rfl)
    obtain rfl := f5 d5
    have q0 := cell_gr gw hp
    have hh := has_of_cell q0
    have HK := PLift.up hK
    clear hK d5
    simp only [s32A]
    go_simp
    have gg : Gr w w := Gr.refl _
    refine HK.down _ _ ⟨_, _, _, _, _, _, _, _, _, _, _, _, _, _, _, _, _, _, _, _, _, _, _, _, _, rfl, gw, fun q => f0 (done_old q (by decide)), fun q => f1 (done_old q (by decide)), fun q => f2 (done_old q (by decide)), fun q => f3 (done_old q (by decide)), fun q => f4 (done_old q (by decide)), fun q => f5 (done_old q (by decide)), fun _ => rfl, fun q => f7 (done_old q (by decide)), fun q => f8 (done_old q (by decide)), fun q => f9 (done_old q (by decide)), fun q => f10 (done_old q (by decide)), fun q => f11 (done_old q (by decide)), fun q => f12 (done_old q (by decide)), fun q => f13 (done_old q (by decide)), fun q => f14 (done_old q (by decide)), fun q => f15 (done_old q (by decide)), fun q => f16 (done_old q (by decide)), fun q => f17 (done_old q (by decide)), fun q => f18 (done_old q (by decide)), fun q => (let ⟨z, e, h2⟩ := f19 (done_old q (by decide)); ⟨z, e, h2.gr gg⟩), fun q => (let ⟨z, e, h2⟩ := f20 (done_old q (by decide)); ⟨z, e, h2.gr gg⟩), fun q => (f21 (done_old q (by decide))).gr gg, fun q => f22 (done_old q (by decide)), fun q => (f23 (done_old q (by decide))).gr gg, fun q => f24 (done_old q (by decide))⟩
  · rintro done a w hsz hnot hdep ⟨t25, t26, t174, t175, t176, t177, t178, t179, t180, t181, t182, t183, t184, t185, t186, t187, t188, t189, t190, t191, t192, t193, t194, t195, t196, rfl, gw, f0, f1, f2, f3, f4, f5, f6, f7, f8, f9, f10, f11, f12, f13, f14, f15, f16, f17, f18, f19, f20, f21, f22, f23, f24⟩ K hK
    have hn : ¬ done.getD 7 false = true := by rw [getD_both hnot]; decide
    have HK := PLift.up hK
    clear hK 
    simp only [s32A]
    go_simp
    have gg : Gr w w := Gr.refl _
    refine HK.down _ _ ⟨_, _, _, _, _, _, _, _, _, _, _, _, _, _, _, _, _, _, _, _, _, _, _, _, _, rfl, gw, fun q => f0 (done_old q (by decide)), fun q => f1 (done_old q (by decide)), fun q => f2 (done_old q (by decide)), fun q => f3 (done_old q (by decide)), fun q => f4 (done_old q (by decide)), fun q => f5 (done_old q (by decide)), fun q => f6 (done_old q (by decide)), fun _ => rfl, fun q => f8 (done_old q (by decide)), fun q => f9 (done_old q (by decide)), fun q => f10 (done_old q (by decide)), fun q => f11 (done_old q (by decide)), fun q => f12 (done_old q (by decide)), fun q => f13 (done_old q (by decide)), fun q => f14 (done_old q (by decide)), fun q => f15 (done_old q (by decide)), fun q => f16 (done_old q (by decide)), fun q => f17 (done_old q (by decide)), fun q => f18 (done_old q (by decide)), fun q => (let ⟨z, e, h2⟩ := f19 (done_old q (by decide)); ⟨z, e, h2.gr gg⟩), fun q => (let ⟨z, e, h2⟩ := f20 (done_old q (by decide)); ⟨z, e, h2.gr gg⟩), fun q => (f21 (done_old q (by decide))).gr gg, fun q => f22 (done_old q (by decide)), fun q => (f23 (done_old q (by decide))).gr gg, fun q => f24 (done_old q (by decide))⟩
  · rintro done a w hsz hnot hdep ⟨t25, t26, t174, t175, t176, t177, t178, t179, t180, t181, t182, t183, t184, t185, t186, t187, t188, t189, t190, t191, t192, t193, t194, t195, t196, rfl, gw, f0, f1, f2, f3, f4, f5, f6, f7, f8, f9, f10, f11, f12, f13, f14, f15, f16, f17, f18, f19, f20, f21, f22, f23, f24⟩ K hK
    have hn : ¬ done.getD 8 false = true := by rw [getD_both hnot]; decide
    have HK := PLift.up hK
    clear hK 
    simp only [s32A]
    go_simp
    have gg : Gr w w := Gr.refl _
    refine HK.down _ _ ⟨_, _, _, _, _, _, _, _, _, _, _, _, _, _, _, _, _, _, _, _, _, _, _, _, _, rfl, gw, fun q => f0 (done_old q (by decide)), fun q => f1 (done_old q (by decide)), fun q => f2 (done_old q (by decide)), fun q => f3 (done_old q (by decide)), fun q => f4 (done_old q (by decide)), fun q => f5 (done_old q (by decide)), fun q => f6 (done_old q (by decide)), fun q => f7 (done_old q (by decide)), fun _ => rfl, fun q => f9 (done_old q (by decide)), fun q => f10 (done_old q (by decide)), fun q => f11 (done_old q (by decide)), fun q => f12 (done_old q (by decide)), fun q => f13 (done_old q (by decide)), fun q => f14 (done_old q (by decide)), fun q => f15 (done_old q (by decide)), fun q => f16 (done_old q (by decide)), fun q => f17 (done_old q (by decide)), fun q => f18 (done_old q (by decide)), fun q => (let ⟨z, e, h2⟩ := f19 (done_old q (by decide)); ⟨z, e, h2.gr gg⟩), fun q => (let ⟨z, e, h2⟩ := f20 (done_old q (by decide)); ⟨z, e, h2.gr gg⟩), fun q => (f21 (done_old q (by decide))).gr gg, fun q => f22 (done_old q (by decide)), fun q => (f23 (done_old q (by decide))).gr gg, fun q => f24 (done_old q (by decide))⟩
  · rintro done a w hsz hnot hdep ⟨t25, t26, t174, t175, t176, t177, t178, t179, t180, t181, t182, t183, t184, t185, t186, t187, t188, t189, t190, t191, t192, t193, t194, t195, t196, rfl, gw, f0, f1, f2, f3, f4, f5, f6, f7, f8, f9, f10, f11, f12, f13, f14, f15, f16, f17, f18, f19, f20, f21, f22, f23, f24⟩ K hK
    have hn : ¬ done.getD 9 false = true := by rw [getD_both hnot]; decide
    have d7 := hdep 7 (by kernel_rfl)
    have d8 := hdep 8 (by kernel_rfl)
    obtain rfl := f7 d7
    obtain rfl := f8 d8
    have q0 := cell_gr gw hq
    have hh := has_of_cell q0
    have kk : (i : Int) < (NN : Int) + 1 := by omega
    have HK := PLift.up hK
    clear hK d7 d8
    simp only [s32A]
    go_simp
    have gg : Gr w w := Gr.refl _
    refine HK.down _ _ ⟨_, _, _, _, _, _, _, _, _, _, _, _, _, _, _, _, _, _, _, _, _, _, _, _, _, rfl, gw, fun q => f0 (done_old q (by decide)), fun q => f1 (done_old q (by decide)), fun q => f2 (done_old q (by decide)), fun q => f3 (done_old q (by decide)), fun q => f4 (done_old q (by decide)), fun q => f5 (done_old q (by decide)), fun q => f6 (done_old q (by decide)), fun q => f7 (done_old q (by decide)), fun q => f8 (done_old q (by decide)), fun _ => rfl, fun q => f10 (done_old q (by decide)), fun q => f11 (done_old q (by decide)), fun q => f12 (done_old q (by decide)), fun q => f13 (done_old q (by decide)), fun q => f14 (done_old q (by decide)), fun q => f15 (done_old q (by decide)), fun q => f16 (done_old q (by decide)), fun q => f17 (done_old q (by decide)), fun q => f18 (done_old q (by decide)), fun q => (let ⟨z, e, h2⟩ := f19 (done_old q (by decide)); ⟨z, e, h2.gr gg⟩), fun q => (let ⟨z, e, h2⟩ := f20 (done_old q (by decide)); ⟨z, e, h2.gr gg⟩), fun q => (f21 (done_old q (by decide))).gr gg, fun q => f22 (done_old q (by decide)), fun q => (f23 (done_old q (by decide))).gr gg, fun q => f24 (done_old q (by decide))⟩
  · rintro done a w hsz hnot hdep ⟨t25, t26, t174, t175, t176, t177, t178, t179, t180, t181, t182, t183, t184, t185, t186, t187, t188, t189, t190, t191, t192, t193, t194, t195, t196, rfl, gw, f0, f1, f2, f3, f4, f5, f6, f7, f8, f9, f10, f11, f12, f13, f14, f15, f16, f17, f18, f19, f20, f21, f22, f23, f24⟩ K hK
    have hn : ¬ done.getD 10 false = true := by rw [getD_both hnot]; decide
    have d9 := hdep 9 (by kernel_rfl)
    obtain rfl := f9 d9
    have q0 := cell_gr gw hq
    have hh := has_of_cell q0
    have HK := PLift.up hK
    clear hK d9
    simp only [s32A]
    go_simp
    have gg : Gr w w := Gr.refl _
    refine HK.down _ _ ⟨_, _, _, _, _, _, _, _, _, _, _, _, _, _, _, _, _, _, _, _, _, _, _, _, _, rfl, gw, fun q => f0 (done_old q (by decide)), fun q => f1 (done_old q (by decide)), fun q => f2 (done_old q (by decide)), fun q => f3 (done_old q (by decide)), fun q => f4 (done_old q (by decide)), fun q => f5 (done_old q (by decide)), fun q => f6 (done_old q (by decide)), fun q => f7 (done_old q (by decide)), fun q => f8 (done_old q (by decide)), fun q => f9 (done_old q (by decide)), fun _ => rfl, fun q => f11 (done_old q (by decide)), fun q => f12 (done_old q (by decide)), fun q => f13 (done_old q (by decide)), fun q => f14 (done_old q (by decide)), fun q => f15 (done_old q (by decide)), fun q => f16 (done_old q (by decide)), fun q => f17 (done_old q (by decide)), fun q => f18 (done_old q (by decide)), fun q => (let ⟨z, e, h2⟩ := f19 (done_old q (by decide)); ⟨z, e, h2.gr gg⟩), fun q => (let ⟨z, e, h2⟩ := f20 (done_old q (by decide)); ⟨z, e, h2.gr gg⟩), fun q => (f21 (done_old q (by decide))).gr gg, fun q => f22 (done_old q (by decide)), fun q => (f23 (done_old q (by decide))).gr gg, fun q => f24 (done_old q (by decide))⟩
  · rintro done a w hsz hnot hdep ⟨t25, t26, t174, t175, t176, t177, t178, t179, t180, t181, t182, t183, t184, t185, t186, t187, t188, t189, t190, t191, t192, t193, t194, t195, t196, rfl, gw, f0, f1, f2, f3, f4, f5, f6, f7, f8, f9, f10, f11, f12, f13, f14, f15, f16, f17, f18, f19, f20, f21, f22, f23, f24⟩ K hK
    have hn : ¬ done.getD 11 false = true := by rw [getD_both hnot]; decide
    have HK := PLift.up hK
    clear hK 
    simp only [s32A]
    go_simp
    have gg : Gr w w := Gr.refl _
    refine HK.down _ _ ⟨_, _, _, _, _, _, _, _, _, _, _, _, _, _, _, _, _, _, _, _, _, _, _, _, _, rfl, gw, fun q => f0 (done_old q (by decide)), fun q => f1 (done_old q (by decide)), fun q => f2 (done_old q (by decide)), fun q => f3 (done_old q (by decide)), fun q => f4 (done_old q (by decide)), fun q => f5 (done_old q (by decide)), fun q => f6 (done_old q (by decide)), fun q => f7 (done_old q (by decide)), fun q => f8 (done_old q (by decide)), fun q => f9 (done_old q (by decide)), fun q => f10 (done_old q (by decide)), fun _ => rfl, fun q => f12 (done_old q (by decide)), fun q => f13 (done_old q (by decide)), fun q => f14 (done_old q (by decide)), fun q => f15 (done_old q (by decide)), fun q => f16 (done_old q (by decide)), fun q => f17 (done_old q (by decide)), fun q => f18 (done_old q (by decide)), fun q => (let ⟨z, e, h2⟩ := f19 (done_old q (by decide)); ⟨z, e, h2.gr gg⟩), fun q => (let ⟨z, e, h2⟩ := f20 (done_old q (by decide)); ⟨z, e, h2.gr gg⟩), fun q => (f21 (done_old q (by decide))).gr gg, fun q => f22 (done_old q (by decide)), fun q => (f23 (done_old q (by decide))).gr gg, fun q => f24 (done_old q (by decide))⟩
  · rintro done a w hsz hnot hdep ⟨t25, t26, t174, t175, t176, t177, t178, t179, t180, t181, t182, t183, t184, t185, t186, t187, t188, t189, t190, t191, t192, t193, t194, t195, t196, rfl, gw, f0, f1, f2, f3, f4, f5, f6, f7, f8, f9, f10, f11, f12, f13, f14, f15, f16, f17, f18, f19, f20, f21, f22, f23, f24⟩ K hK
    have hn : ¬ done.getD 12 false = true := by rw [getD_both hnot]; decide
    have HK := PLift.up hK
    clear hK 
    simp only [s32A]
    go_simp
    have gg : Gr w w := Gr.refl _
    refine HK.down _ _ ⟨_, _, _, _, _, _, _, _, _, _, _, _, _, _, _, _, _, _, _, _, _, _, _, _, _, rfl, gw, fun q => f0 (done_old q (by decide)), fun q => f1 (done_old q (by decide)), fun q => f2 (done_old q (by decide)), fun q => f3 (done_old q (by decide)), fun q => f4 (done_old q (by decide)), fun q => f5 (done_old q (by decide)), fun q => f6 (done_old q (by decide)), fun q => f7 (done_old q (by decide)), fun q => f8 (done_old q (by decide)), fun q => f9 (done_old q (by decide)), fun q => f10 (done_old q (by decide)), fun q => f11 (done_old q (by decide)), fun _ => rfl, fun q => f13 (done_old q (by decide)), fun q => f14 (done_old q (by decide)), fun q => f15 (done_old q (by decide)), fun q => f16 (done_old q (by decide)), fun q => f17 (done_old q (by decide)), fun q => f18 (done_old q (by decide)), fun q => (let ⟨z, e, h2⟩ := f19 (done_old q (by decide)); ⟨z, e, h2.gr gg⟩), fun q => (let ⟨z, e, h2⟩ := f20 (done_old q (by decide)); ⟨z, e, h2.gr gg⟩), fun q => (f21 (done_old q (by decide))).gr gg, fun q => f22 (done_old q (by decide)), fun q => (f23 (done_old q (by decide))).gr gg, fun q => f24 (done_old q (by decide))⟩
  · rintro done a w hsz hnot hdep ⟨t25, t26, t174, t175, t176, t177, t178, t179, t180, t181, t182, t183, t184, t185, t186, t187, t188, t189, t190, t191, t192, t193, t194, t195, t196, rfl, gw, f0, f1, f2, f3, f4, f5, f6, f7, f8, f9, f10, f11, f12, f13, f14, f15, f16, f17, f18, f19, f20, f21, f22, f23, f24⟩ K hK
    have hn : ¬ done.getD 13 false = true := by rw [getD_both hnot]; decide
    have d11 := hdep 11 (by kernel_rfl)
    have d12 := hdep 12 (by kernel_rfl)
    obtain rfl := f11 d11
    obtain rfl := f12 d12
    have q0 := cell_gr gw hp
    have hh := has_of_cell q0
    have kk : (i : Int) < (NN : Int) := by omega
    have HK := PLift.up hK
    clear hK d11 d12
    simp only [s32A]
    go_simp
    have gg : Gr w w := Gr.refl _
    refine HK.down _ _ ⟨_, _, _, _, _, _, _, _, _, _, _, _, _, _, _, _, _, _, _, _, _, _, _, _, _, rfl, gw, fun q => f0 (done_old q (by decide)), fun q => f1 (done_old q (by decide)), fun q => f2 (done_old q (by decide)), fun q => f3 (done_old q (by decide)), fun q => f4 (done_old q (by decide)), fun q => f5 (done_old q (by decide)), fun q => f6 (done_old q (by decide)), fun q => f7 (done_old q (by decide)), fun q => f8 (done_old q (by decide)), fun q => f9 (done_old q (by decide)), fun q => f10 (done_old q (by decide)), fun q => f11 (done_old q (by decide)), fun q => f12 (done_old q (by decide)), fun _ => rfl, fun q => f14 (done_old q (by decide)), fun q => f15 (done_old q (by decide)), fun q => f16 (done_old q (by decide)), fun q => f17 (done_old q (by decide)), fun q => f18 (done_old q (by decide)), fun q => (let ⟨z, e, h2⟩ := f19 (done_old q (by decide)); ⟨z, e, h2.gr gg⟩), fun q => (let ⟨z, e, h2⟩ := f20 (done_old q (by decide)); ⟨z, e, h2.gr gg⟩), fun q => (f21 (done_old q (by decide))).gr gg, fun q => f22 (done_old q (by decide)), fun q => (f23 (done_old q (by decide))).gr gg, fun q => f24 (done_old q (by decide))⟩
  · rintro done a w hsz hnot hdep ⟨t25, t26, t174, t175, t176, t177, t178, t179, t180, t181, t182, t183, t184, t185, t186, t187, t188, t189, t190, t191, t192, t193, t194, t195, t196, rfl, gw, f0, f1, f2, f3, f4, f5, f6, f7, f8, f9, f10, f11, f12, f13, f14, f15, f16, f17, f18, f19, f20, f21, f22, f23, f24⟩ K hK
    have hn : ¬ done.getD 14 false = true := by rw [getD_both hnot]; decide
    have d13 := hdep 13 (by kernel_rfl)
    obtain rfl := f13 d13
    have HK := PLift.up hK
    clear hK d13
    simp only [s32A]
    go_simp
    have gg : Gr w w := Gr.refl _
    refine HK.down _ _ ⟨_, _, _, _, _, _, _, _, _, _, _, _, _, _, _, _, _, _, _, _, _, _, _, _, _, rfl, gw, fun q => f0 (done_old q (by decide)), fun q => f1 (done_old q (by decide)), fun q => f2 (done_old q (by decide)), fun q => f3 (done_old q (by decide)), fun q => f4 (done_old q (by decide)), fun q => f5 (done_old q (by decide)), fun q => f6 (done_old q (by decide)), fun q => f7 (done_old q (by decide)), fun q => f8 (done_old q (by decide)), fun q => f9 (done_old q (by decide)), fun q => f10 (done_old q (by decide)), fun q => f11 (done_old q (by decide)), fun q => f12 (done_old q (by decide)), fun q => f13 (done_old q (by decide)), fun _ => rfl, fun q => f15 (done_old q (by decide)), fun q => f16 (done_old q (by decide)), fun q => f17 (done_old q (by decide)), fun q => f18 (done_old q (by decide)), fun q => (let ⟨z, e, h2⟩ := f19 (done_old q (by decide)); ⟨z, e, h2.gr gg⟩), fun q => (let ⟨z, e, h2⟩ := f20 (done_old q (by decide)); ⟨z, e, h2.gr gg⟩), fun q => (f21 (done_old q (by decide))).gr gg, fun q => f22 (done_old q (by decide)), fun q => (f23 (done_old q (by decide))).gr gg, fun q => f24 (done_old q (by decide))⟩
  · rintro done a w hsz hnot hdep ⟨t25, t26, t174, t175, t176, t177, t178, t179, t180, t181, t182, t183, t184, t185, t186, t187, t188, t189, t190, t191, t192, t193, t194, t195, t196, rfl, gw, f0, f1, f2, f3, f4, f5, f6, f7, f8, f9, f10, f11, f12, f13, f14, f15, f16, f17, f18, f19, f20, f21, f22, f23, f24⟩ K hK
    have hn : ¬ done.getD 15 false = true := by rw [getD_both hnot]; decide
    have d14 := hdep 14 (by kernel_rfl)
    obtain rfl := f14 d14
    have q0 := cell_gr gw hp
    have hh := has_of_cell q0
    have HK := PLift.up hK
    clear hK d14
    simp only [s32A]
    go_simp
    have gg : Gr w w := Gr.refl _
    refine HK.down _ _ ⟨_, _, _, _, _, _, _, _, _, _, _, _, _, _, _, _, _, _, _, _, _, _, _, _, _, rfl, gw, fun q => f0 (done_old q (by decide)), fun q => f1 (done_old q (by decide)), fun q => f2 (done_old q (by decide)), fun q => f3 (done_old q (by decide)), fun q => f4 (done_old q (by decide)), fun q => f5 (done_old q (by decide)), fun q => f6 (done_old q (by decide)), fun q => f7 (done_old q (by decide)), fun q => f8 (done_old q (by decide)), fun q => f9 (done_old q (by decide)), fun q => f10 (done_old q (by decide)), fun q => f11 (done_old q (by decide)), fun q => f12 (done_old q (by decide)), fun q => f13 (done_old q (by decide)), fun q => f14 (done_old q (by decide)), fun _ => rfl, fun q => f16 (done_old q (by decide)), fun q => f17 (done_old q (by decide)), fun q => f18 (done_old q (by decide)), fun q => (let ⟨z, e, h2⟩ := f19 (done_old q (by decide)); ⟨z, e, h2.gr gg⟩), fun q => (let ⟨z, e, h2⟩ := f20 (done_old q (by decide)); ⟨z, e, h2.gr gg⟩), fun q => (f21 (done_old q (by decide))).gr gg, fun q => f22 (done_old q (by decide)), fun q => (f23 (done_old q (by decide))).gr gg, fun q => f24 (done_old q (by decide))⟩
  · rintro done a w hsz hnot hdep ⟨t25, t26, t174, t175, t176, t177, t178, t179, t180, t181, t182, t183, t184, t185, t186, t187, t188, t189, t190, t191, t192, t193, t194, t195, t196, rfl, gw, f0, f1, f2, f3, f4, f5, f6, f7, f8, f9, f10, f11, f12, f13, f14, f15, f16, f17, f18, f19, f20, f21, f22, f23, f24⟩ K hK
    have hn : ¬ done.getD 16 false = true := by rw [getD_both hnot]; decide
    have d10 := hdep 10 (by kernel_rfl)
    have d15 := hdep 15 (by kernel_rfl)
    obtain rfl := f10 d10
    obtain rfl := f15 d15
    have q0 := cell_gr gw hx
    have hh := has_of_cell q0
    have kk : (u : Int) < (nn : Int) := by omega
    have HK := PLift.up hK
    clear hK d10 d15
    simp only [s32A]
    go_simp
    have gg : Gr w w := Gr.refl _
    refine HK.down _ _ ⟨_, _, _, _, _, _, _, _, _, _, _, _, _, _, _, _, _, _, _, _, _, _, _, _, _, rfl, gw, fun q => f0 (done_old q (by decide)), fun q => f1 (done_old q (by decide)), fun q => f2 (done_old q (by decide)), fun q => f3 (done_old q (by decide)), fun q => f4 (done_old q (by decide)), fun q => f5 (done_old q (by decide)), fun q => f6 (done_old q (by decide)), fun q => f7 (done_old q (by decide)), fun q => f8 (done_old q (by decide)), fun q => f9 (done_old q (by decide)), fun q => f10 (done_old q (by decide)), fun q => f11 (done_old q (by decide)), fun q => f12 (done_old q (by decide)), fun q => f13 (done_old q (by decide)), fun q => f14 (done_old q (by decide)), fun q => f15 (done_old q (by decide)), fun _ => rfl, fun q => f17 (done_old q (by decide)), fun q => f18 (done_old q (by decide)), fun q => (let ⟨z, e, h2⟩ := f19 (done_old q (by decide)); ⟨z, e, h2.gr gg⟩), fun q => (let ⟨z, e, h2⟩ := f20 (done_old q (by decide)); ⟨z, e, h2.gr gg⟩), fun q => (f21 (done_old q (by decide))).gr gg, fun q => f22 (done_old q (by decide)), fun q => (f23 (done_old q (by decide))).gr gg, fun q => f24 (done_old q (by decide))⟩
  · rintro done a w hsz hnot hdep ⟨t25, t26, t174, t175, t176, t177, t178, t179, t180, t181, t182, t183, t184, t185, t186, t187, t188, t189, t190, t191, t192, t193, t194, t195, t196, rfl, gw, f0, f1, f2, f3, f4, f5, f6, f7, f8, f9, f10, f11, f12, f13, f14, f15, f16, f17, f18, f19, f20, f21, f22, f23, f24⟩ K hK
    have hn : ¬ done.getD 17 false = true := by rw [getD_both hnot]; decide
    have d16 := hdep 16 (by kernel_rfl)
    obtain rfl := f16 d16
    have q0 := cell_gr gw hx
    have hh := has_of_cell q0
    have HK := PLift.up hK
    clear hK d16
    simp only [s32A]
    go_simp
    have gg : Gr w w := Gr.refl _
    refine HK.down _ _ ⟨_, _, _, _, _, _, _, _, _, _, _, _, _, _, _, _, _, _, _, _, _, _, _, _, _, rfl, gw, fun q => f0 (done_old q (by decide)), fun q => f1 (done_old q (by decide)), fun q => f2 (done_old q (by decide)), fun q => f3 (done_old q (by decide)), fun q => f4 (done_old q (by decide)), fun q => f5 (done_old q (by decide)), fun q => f6 (done_old q (by decide)), fun q => f7 (done_old q (by decide)), fun q => f8 (done_old q (by decide)), fun q => f9 (done_old q (by decide)), fun q => f10 (done_old q (by decide)), fun q => f11 (done_old q (by decide)), fun q => f12 (done_old q (by decide)), fun q => f13 (done_old q (by decide)), fun q => f14 (done_old q (by decide)), fun q => f15 (done_old q (by decide)), fun q => f16 (done_old q (by decide)), fun _ => rfl, fun q => f18 (done_old q (by decide)), fun q => (let ⟨z, e, h2⟩ := f19 (done_old q (by decide)); ⟨z, e, h2.gr gg⟩), fun q => (let ⟨z, e, h2⟩ := f20 (done_old q (by decide)); ⟨z, e, h2.gr gg⟩), fun q => (f21 (done_old q (by decide))).gr gg, fun q => f22 (done_old q (by decide)), fun q => (f23 (done_old q (by decide))).gr gg, fun q => f24 (done_old q (by decide))⟩
  · rintro done a w hsz hnot hdep ⟨t25, t26, t174, t175, t176, t177, t178, t179, t180, t181, t182, t183, t184, t185, t186, t187, t188, t189, t190, t191, t192, t193, t194, t195, t196, rfl, gw, f0, f1, f2, f3, f4, f5, f6, f7, f8, f9, f10, f11, f12, f13, f14, f15, f16, f17, f18, f19, f20, f21, f22, f23, f24⟩ K hK
    have hn : ¬ done.getD 18 false = true := by rw [getD_both hnot]; decide
    have d6 := hdep 6 (by kernel_rfl)
    have d17 := hdep 17 (by kernel_rfl)
    obtain rfl := f6 d6
    obtain rfl := f17 d17
    have HK := PLift.up hK
    clear hK d6 d17
    simp only [s32A]
    go_simp
    have gg : Gr w w := Gr.refl _
    refine HK.down _ _ ⟨_, _, _, _, _, _, _, _, _, _, _, _, _, _, _, _, _, _, _, _, _, _, _, _, _, rfl, gw, fun q => f0 (done_old q (by decide)), fun q => f1 (done_old q (by decide)), fun q => f2 (done_old q (by decide)), fun q => f3 (done_old q (by decide)), fun q => f4 (done_old q (by decide)), fun q => f5 (done_old q (by decide)), fun q => f6 (done_old q (by decide)), fun q => f7 (done_old q (by decide)), fun q => f8 (done_old q (by decide)), fun q => f9 (done_old q (by decide)), fun q => f10 (done_old q (by decide)), fun q => f11 (done_old q (by decide)), fun q => f12 (done_old q (by decide)), fun q => f13 (done_old q (by decide)), fun q => f14 (done_old q (by decide)), fun q => f15 (done_old q (by decide)), fun q => f16 (done_old q (by decide)), fun q => f17 (done_old q (by decide)), fun _ => rfl, fun q => (let ⟨z, e, h2⟩ := f19 (done_old q (by decide)); ⟨z, e, h2.gr gg⟩), fun q => (let ⟨z, e, h2⟩ := f20 (done_old q (by decide)); ⟨z, e, h2.gr gg⟩), fun q => (f21 (done_old q (by decide))).gr gg, fun q => f22 (done_old q (by decide)), fun q => (f23 (done_old q (by decide))).gr gg, fun q => f24 (done_old q (by decide))⟩
  · rintro done a w hsz hnot hdep ⟨t25, t26, t174, t175, t176, t177, t178, t179, t180, t181, t182, t183, t184, t185, t186, t187, t188, t189, t190, t191, t192, t193, t194, t195, t196, rfl, gw, f0, f1, f2, f3, f4, f5, f6, f7, f8, f9, f10, f11, f12, f13, f14, f15, f16, f17, f18, f19, f20, f21, f22, f23, f24⟩ K hK
    have hn : ¬ done.getD 19 false = true := by rw [getD_both hnot]; decide
    have d0 := hdep 0 (by kernel_rfl)
    have d1 := hdep 1 (by kernel_rfl)
    have d18 := hdep 18 (by kernel_rfl)
    obtain rfl := f0 d0
    obtain rfl := f1 d1
    obtain rfl := f18 d18
    have HK := PLift.up hK
    clear hK d0 d1 d18
    simp only [s32A]
    go_simp
    have CC := proApply_any l y u v al aA cl cA w (clks_gr HE.down gw) (SA.down.giI gw) HC.down HT.down hu hv
    rw [HT.down.1, hnl] at CC
    refine CC.mono ?_
    rintro e w2 ⟨B2, c2, rfl, hr, hb, hg⟩
    have gg : Gr w w2 := hg
    clear hg
    (try go_simp)
    refine HK.down _ _ ⟨_, _, _, _, _, _, _, _, _, _, _, _, _, _, _, _, _, _, _, _, _, _, _, _, _, rfl, gw.trans gg, fun q => f0 (done_old q (by decide)), fun q => f1 (done_old q (by decide)), fun q => f2 (done_old q (by decide)), fun q => f3 (done_old q (by decide)), fun q => f4 (done_old q (by decide)), fun q => f5 (done_old q (by decide)), fun q => f6 (done_old q (by decide)), fun q => f7 (done_old q (by decide)), fun q => f8 (done_old q (by decide)), fun q => f9 (done_old q (by decide)), fun q => f10 (done_old q (by decide)), fun q => f11 (done_old q (by decide)), fun q => f12 (done_old q (by decide)), fun q => f13 (done_old q (by decide)), fun q => f14 (done_old q (by decide)), fun q => f15 (done_old q (by decide)), fun q => f16 (done_old q (by decide)), fun q => f17 (done_old q (by decide)), fun q => f18 (done_old q (by decide)), ?_, fun q => (let ⟨z, e, h2⟩ := f20 (done_old q (by decide)); ⟨z, e, h2.gr gg⟩), fun q => (f21 (done_old q (by decide))).gr gg, fun q => f22 (done_old q (by decide)), fun q => (f23 (done_old q (by decide))).gr gg, fun q => f24 (done_old q (by decide))⟩
    exact fun _ => ⟨_, rfl, B2, c2, rfl, hr, Nat.le_trans gw.size hb⟩
  · rintro done a w hsz hnot hdep ⟨t25, t26, t174, t175, t176, t177, t178, t179, t180, t181, t182, t183, t184, t185, t186, t187, t188, t189, t190, t191, t192, t193, t194, t195, t196, rfl, gw, f0, f1, f2, f3, f4, f5, f6, f7, f8, f9, f10, f11, f12, f13, f14, f15, f16, f17, f18, f19, f20, f21, f22, f23, f24⟩ K hK
    have hn : ¬ done.getD 20 false = true := by rw [getD_both hnot]; decide
    have d19 := hdep 19 (by kernel_rfl)
    obtain ⟨z, rfl, hy⟩ := f19 d19
    have HY := PLift.up hy
    clear hy
    have HK := PLift.up hK
    clear hK 
    simp only [s32A]
    go_simp
    have gg : Gr w w := Gr.refl _
    refine HK.down _ _ ⟨_, _, _, _, _, _, _, _, _, _, _, _, _, _, _, _, _, _, _, _, _, _, _, _, _, rfl, gw, fun q => f0 (done_old q (by decide)), fun q => f1 (done_old q (by decide)), fun q => f2 (done_old q (by decide)), fun q => f3 (done_old q (by decide)), fun q => f4 (done_old q (by decide)), fun q => f5 (done_old q (by decide)), fun q => f6 (done_old q (by decide)), fun q => f7 (done_old q (by decide)), fun q => f8 (done_old q (by decide)), fun q => f9 (done_old q (by decide)), fun q => f10 (done_old q (by decide)), fun q => f11 (done_old q (by decide)), fun q => f12 (done_old q (by decide)), fun q => f13 (done_old q (by decide)), fun q => f14 (done_old q (by decide)), fun q => f15 (done_old q (by decide)), fun q => f16 (done_old q (by decide)), fun q => f17 (done_old q (by decide)), fun q => f18 (done_old q (by decide)), fun _ => ⟨z, rfl, HY.down⟩, ?_, fun q => (f21 (done_old q (by decide))).gr gg, fun q => f22 (done_old q (by decide)), fun q => (f23 (done_old q (by decide))).gr gg, fun q => f24 (done_old q (by decide))⟩
    exact fun _ => ⟨z, rfl, HY.down⟩
  · rintro done a w hsz hnot hdep ⟨t25, t26, t174, t175, t176, t177, t178, t179, t180, t181, t182, t183, t184, t185, t186, t187, t188, t189, t190, t191, t192, t193, t194, t195, t196, rfl, gw, f0, f1, f2, f3, f4, f5, f6, f7, f8, f9, f10, f11, f12, f13, f14, f15, f16, f17, f18, f19, f20, f21, f22, f23, f24⟩ K hK
    have hn : ¬ done.getD 21 false = true := by rw [getD_both hnot]; decide
    have d20 := hdep 20 (by kernel_rfl)
    obtain ⟨z, rfl, hy⟩ := f20 d20
    have HY := PLift.up hy
    clear hy
    have HK := PLift.up hK
    clear hK 
    simp only [s32A]
    go_simp
    have gg : Gr w w := Gr.refl _
    refine HK.down _ _ ⟨_, _, _, _, _, _, _, _, _, _, _, _, _, _, _, _, _, _, _, _, _, _, _, _, _, rfl, gw, fun q => f0 (done_old q (by decide)), fun q => f1 (done_old q (by decide)), fun q => f2 (done_old q (by decide)), fun q => f3 (done_old q (by decide)), fun q => f4 (done_old q (by decide)), fun q => f5 (done_old q (by decide)), fun q => f6 (done_old q (by decide)), fun q => f7 (done_old q (by decide)), fun q => f8 (done_old q (by decide)), fun q => f9 (done_old q (by decide)), fun q => f10 (done_old q (by decide)), fun q => f11 (done_old q (by decide)), fun q => f12 (done_old q (by decide)), fun q => f13 (done_old q (by decide)), fun q => f14 (done_old q (by decide)), fun q => f15 (done_old q (by decide)), fun q => f16 (done_old q (by decide)), fun q => f17 (done_old q (by decide)), fun q => f18 (done_old q (by decide)), fun q => (let ⟨z, e, h2⟩ := f19 (done_old q (by decide)); ⟨z, e, h2.gr gg⟩), fun _ => ⟨z, rfl, HY.down⟩, ?_, fun q => f22 (done_old q (by decide)), fun q => (f23 (done_old q (by decide))).gr gg, fun q => f24 (done_old q (by decide))⟩
    exact fun _ => HY.down
  · rintro done a w hsz hnot hdep ⟨t25, t26, t174, t175, t176, t177, t178, t179, t180, t181, t182, t183, t184, t185, t186, t187, t188, t189, t190, t191, t192, t193, t194, t195, t196, rfl, gw, f0, f1, f2, f3, f4, f5, f6, f7, f8, f9, f10, f11, f12, f13, f14, f15, f16, f17, f18, f19, f20, f21, f22, f23, f24⟩ K hK
    have hn : ¬ done.getD 22 false = true := by rw [getD_both hnot]; decide
    have d20 := hdep 20 (by kernel_rfl)
    obtain ⟨z, rfl, hy⟩ := f20 d20
    have HY := PLift.up hy
    clear hy
    have HK := PLift.up hK
    clear hK 
    simp only [s32A]
    go_simp
    have gg : Gr w w := Gr.refl _
    refine HK.down _ _ ⟨_, _, _, _, _, _, _, _, _, _, _, _, _, _, _, _, _, _, _, _, _, _, _, _, _, rfl, gw, fun q => f0 (done_old q (by decide)), fun q => f1 (done_old q (by decide)), fun q => f2 (done_old q (by decide)), fun q => f3 (done_old q (by decide)), fun q => f4 (done_old q (by decide)), fun q => f5 (done_old q (by decide)), fun q => f6 (done_old q (by decide)), fun q => f7 (done_old q (by decide)), fun q => f8 (done_old q (by decide)), fun q => f9 (done_old q (by decide)), fun q => f10 (done_old q (by decide)), fun q => f11 (done_old q (by decide)), fun q => f12 (done_old q (by decide)), fun q => f13 (done_old q (by decide)), fun q => f14 (done_old q (by decide)), fun q => f15 (done_old q (by decide)), fun q => f16 (done_old q (by decide)), fun q => f17 (done_old q (by decide)), fun q => f18 (done_old q (by decide)), fun q => (let ⟨z, e, h2⟩ := f19 (done_old q (by decide)); ⟨z, e, h2.gr gg⟩), fun _ => ⟨z, rfl, HY.down⟩, fun q => (f21 (done_old q (by decide))).gr gg, fun _ => rfl, fun q => (f23 (done_old q (by decide))).gr gg, fun q => f24 (done_old q (by decide))⟩
  · rintro done a w hsz hnot hdep ⟨t25, t26, t174, t175, t176, t177, t178, t179, t180, t181, t182, t183, t184, t185, t186, t187, t188, t189, t190, t191, t192, t193, t194, t195, t196, rfl, gw, f0, f1, f2, f3, f4, f5, f6, f7, f8, f9, f10, f11, f12, f13, f14, f15, f16, f17, f18, f19, f20, f21, f22, f23, f24⟩ K hK
    have hn : ¬ done.getD 23 false = true := by rw [getD_both hnot]; decide
    have d21 := hdep 21 (by kernel_rfl)
    have HY := PLift.up (f21 d21)
    have HK := PLift.up hK
    clear hK 
    simp only [s32A]
    go_simp
    have gg : Gr w w := Gr.refl _
    refine HK.down _ _ ⟨_, _, _, _, _, _, _, _, _, _, _, _, _, _, _, _, _, _, _, _, _, _, _, _, _, rfl, gw, fun q => f0 (done_old q (by decide)), fun q => f1 (done_old q (by decide)), fun q => f2 (done_old q (by decide)), fun q => f3 (done_old q (by decide)), fun q => f4 (done_old q (by decide)), fun q => f5 (done_old q (by decide)), fun q => f6 (done_old q (by decide)), fun q => f7 (done_old q (by decide)), fun q => f8 (done_old q (by decide)), fun q => f9 (done_old q (by decide)), fun q => f10 (done_old q (by decide)), fun q => f11 (done_old q (by decide)), fun q => f12 (done_old q (by decide)), fun q => f13 (done_old q (by decide)), fun q => f14 (done_old q (by decide)), fun q => f15 (done_old q (by decide)), fun q => f16 (done_old q (by decide)), fun q => f17 (done_old q (by decide)), fun q => f18 (done_old q (by decide)), fun q => (let ⟨z, e, h2⟩ := f19 (done_old q (by decide)); ⟨z, e, h2.gr gg⟩), fun q => (let ⟨z, e, h2⟩ := f20 (done_old q (by decide)); ⟨z, e, h2.gr gg⟩), fun q => (f21 (done_old q (by decide))).gr gg, fun q => f22 (done_old q (by decide)), ?_, fun q => f24 (done_old q (by decide))⟩
    exact fun _ => HY.down
  · rintro done a w hsz hnot hdep ⟨t25, t26, t174, t175, t176, t177, t178, t179, t180, t181, t182, t183, t184, t185, t186, t187, t188, t189, t190, t191, t192, t193, t194, t195, t196, rfl, gw, f0, f1, f2, f3, f4, f5, f6, f7, f8, f9, f10, f11, f12, f13, f14, f15, f16, f17, f18, f19, f20, f21, f22, f23, f24⟩ K hK
    have hn : ¬ done.getD 24 false = true := by rw [getD_both hnot]; decide
    have d22 := hdep 22 (by kernel_rfl)
    obtain rfl := f22 d22
    have HK := PLift.up hK
    clear hK d22
    simp only [s32A]
    go_simp
    have gg : Gr w w := Gr.refl _
    refine HK.down _ _ ⟨_, _, _, _, _, _, _, _, _, _, _, _, _, _, _, _, _, _, _, _, _, _, _, _, _, rfl, gw, fun q => f0 (done_old q (by decide)), fun q => f1 (done_old q (by decide)), fun q => f2 (done_old q (by decide)), fun q => f3 (done_old q (by decide)), fun q => f4 (done_old q (by decide)), fun q => f5 (done_old q (by decide)), fun q => f6 (done_old q (by decide)), fun q => f7 (done_old q (by decide)), fun q => f8 (done_old q (by decide)), fun q => f9 (done_old q (by decide)), fun q => f10 (done_old q (by decide)), fun q => f11 (done_old q (by decide)), fun q => f12 (done_old q (by decide)), fun q => f13 (done_old q (by decide)), fun q => f14 (done_old q (by decide)), fun q => f15 (done_old q (by decide)), fun q => f16 (done_old q (by decide)), fun q => f17 (done_old q (by decide)), fun q => f18 (done_old q (by decide)), fun q => (let ⟨z, e, h2⟩ := f19 (done_old q (by decide)); ⟨z, e, h2.gr gg⟩), fun q => (let ⟨z, e, h2⟩ := f20 (done_old q (by decide)); ⟨z, e, h2.gr gg⟩), fun q => (f21 (done_old q (by decide))).gr gg, fun q => f22 (done_old q (by decide)), fun q => (f23 (done_old q (by decide))).gr gg, fun _ => rfl⟩
  · rintro done a w hall ⟨t25, t26, t174, t175, t176, t177, t178, t179, t180, t181, t182, t183, t184, t185, t186, t187, t188, t189, t190, t191, t192, t193, t194, t195, t196, rfl, gw, f0, f1, f2, f3, f4, f5, f6, f7, f8, f9, f10, f11, f12, f13, f14, f15, f16, f17, f18, f19, f20, f21, f22, f23, f24⟩
    obtain ⟨B2, c2, rfl, hr, hb⟩ := f23 (hall 23 (by decide))
    obtain rfl := f24 (hall 24 (by decide))
    exact h' _ _ _ _ _ _ _ _ _ _ _ _ _ _ _ _ _ _ _ _ _ _ _ B2 c2 w gw hr hb
end Go.Proofs.YtenehghpmnajpaaDoor
