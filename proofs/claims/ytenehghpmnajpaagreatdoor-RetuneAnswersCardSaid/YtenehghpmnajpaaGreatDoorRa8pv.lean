/- Lemmas and contracts for the proof of RetuneAnswers (several texts in one, printed by wip/tools/pack.py): Ra7 KlA. -/
import Derived.Test.YtenehghpmnajpaaGreatDoorRa8pu
import Derived.Test.YtenehghpmnajpaaGreatDoorRa8pt
set_option maxRecDepth 100000
set_option maxHeartbeats 16000000
set_option linter.unusedVariables false
set_option linter.unusedSimpArgs false
namespace Go.Proofs.YtenehghpmnajpaaGreatDoor
open Go.RowKit
open Classical
def WTri (lo : Nat) (p : Wri) (w : World) (g : Nat) : Prop := lo ≤ g ∧ ∃ x y z : Int, Wide x ∧ Wide y ∧ Wide z ∧ Row w g 65 [.int .i64 p.kind, .int .i64 p.unit, .int .i64 p.value, .int .i64 1, .int .i64 x, .int .i64 y, .int .i64 z, .int .i64 0, .int .i64 0]
theorem WTri.mvd {b n lo g : Nat} {p : Wri} {w w' : World} (h : WTri lo p w g) (hb : b < lo) (m : Mv b n w w') : WTri lo p w' g := by
  obtain ⟨h1, x, y, z, vx, vy, vz, r⟩ := h
  exact ⟨h1, x, y, z, vx, vy, vz, m.row r (by omega)⟩
theorem tri_mv {b n lo : Nat} {p : Wri} {w w' : World} {t : Value} (h : ∃ g : Nat, t = .slice (some ⟨g, 0, none⟩) 3 3 ∧ WTri lo p w g) (hb : b < lo) (m : Mv b n w w') : ∃ g : Nat, t = .slice (some ⟨g, 0, none⟩) 3 3 ∧ WTri lo p w' g := by
  obtain ⟨g, e, q⟩ := h
  exact ⟨g, e, q.mvd hb m⟩
theorem WTri.read {lo g : Nat} {p : Wri} {w : World} (h : WTri lo p w g) (hp : WriWd p) : ∀ k, k < 3 → ∃ q : Wri, WriWd q ∧ w.cell? ⟨g, k * 3, none⟩ = some (.int .i64 q.kind) ∧ w.cell? ⟨g, k * 3 + 1, none⟩ = some (.int .i64 q.unit) ∧ w.cell? ⟨g, k * 3 + 2, none⟩ = some (.int .i64 q.value) := by
  obtain ⟨h1, x, y, z, vx, vy, vz, r⟩ := h
  have v0 : Wide 0 := by unfold Wide; omega
  have v1 : Wide 1 := by unfold Wide; omega
  intro k hk
  obtain rfl | rfl | rfl : k = 0 ∨ k = 1 ∨ k = 2 := by omega
  · exact ⟨p, hp, r.cell 0 (by simp), r.cell 1 (by simp), r.cell 2 (by simp)⟩
  · exact ⟨⟨1, x, y⟩, ⟨v1, vx, vy⟩, r.cell 3 (by simp), r.cell 4 (by simp), r.cell 5 (by simp)⟩
  · exact ⟨⟨z, 0, 0⟩, ⟨vz, v0, v0⟩, r.cell 6 (by simp), r.cell 7 (by simp), r.cell 8 (by simp)⟩
def ra7F (b n bw : Nat) (p : Wri) (wr : World) (t256 t257 t258 t259 t260 t261 t262 t263 t264 t265 t266 t267 : Value) (d : Array Bool) (w : World) : Prop :=
  Mv b n wr w ∧ (d.getD 0 false = true → t256 = .agg #[.int .i64 p.kind, .int .i64 p.unit, .int .i64 p.value]) ∧
  (d.getD 1 false = true → t257 = .pointer (some ⟨b, 0, none⟩)) ∧
  (d.getD 2 false = true → (∃ y : Int, t258 = .int .i64 y ∧ Wide y)) ∧
  (d.getD 3 false = true → t259 = .pointer (some ⟨b, 0, none⟩)) ∧
  (d.getD 4 false = true → (∃ y : Int, t260 = .int .i64 y ∧ Wide y)) ∧
  (d.getD 5 false = true → (∃ x y : Int, t261 = .agg #[.int .i64 1, .int .i64 x, .int .i64 y] ∧ Wide x ∧ Wide y)) ∧
  (d.getD 6 false = true → t262 = .pointer (some ⟨b, 0, none⟩)) ∧
  (d.getD 7 false = true → (∃ y : Int, t263 = .int .i64 y ∧ Wide y)) ∧
  (d.getD 8 false = true → (∃ x : Int, t264 = .agg #[.int .i64 x, .int .i64 0, .int .i64 0] ∧ Wide x)) ∧
  (d.getD 9 false = true → (∃ g : Nat, t265 = .slice (some ⟨g, 0, none⟩) 3 3 ∧ WTri wr.heap.size p w g)) ∧
  (d.getD 10 false = true → t266 = .int .i64 3) ∧
  (d.getD 11 false = true → t267 = .int .i64 0)
def ra7A (b bw : Nat) (t256 t257 t258 t259 t260 t261 t262 t263 t264 t265 t266 t267 s0 s1 s2 s3 s4 s5 s6 s7 s8 s9 s10 s11 s13 s14 s16 s17 s18 s19 s20 s21 s22 s23 s24 s25 s26 s27 s28 s29 s30 s31 s32 s33 s34 s35 s36 s37 s38 s39 s40 s41 s42 s43 s44 s45 s46 s47 s48 s49 s50 s51 s52 s53 s54 s55 s56 s57 s58 s59 s60 s61 s62 s63 s64 s65 s66 s67 s68 s69 s70 s71 s72 s73 s74 s75 s76 s77 s78 s79 s80 s81 s82 s83 s84 s85 s86 s87 s88 s89 s90 s91 s92 s93 s94 s95 s96 s97 s98 s99 s100 s101 s102 s103 s104 s105 s106 s107 s108 s109 s110 s111 s112 s113 s114 s115 s116 s117 s118 s119 s120 s121 s122 s123 s124 s125 s126 s127 s128 s129 s130 s131 s132 s133 s134 s135 s136 s137 s138 s139 s140 s141 s142 s143 s144 s145 s146 s147 s148 s149 s150 s151 s152 s153 s154 s155 s156 s157 s158 s159 s160 s161 s162 s163 s164 s165 s166 s167 s168 s169 s170 s171 s172 s173 s174 s175 s176 s177 s178 s179 s180 s181 s182 s183 s184 s185 s186 s187 s188 s189 s190 s191 s192 s193 s194 s195 s196 s197 s198 s199 s200 s201 s202 s203 s204 s205 s206 s207 s208 s209 s210 s211 s212 s213 s214 s215 s216 s217 s218 s219 s220 s221 s222 s223 s224 s225 s226 s227 s228 s229 s230 s231 s232 s233 s234 s235 s236 s237 s238 s239 s240 s241 s242 s243 s244 s245 s246 s247 s248 s249 s250 s251 s252 s253 s254 s255 s268 s269 s270 s271 s272 s273 s274 s275 s276 s277 s278 s279 s280 s281 s282 s283 s284 s285 s286 s287 s288 s289 s290 s291 s292 s293 s294 s295 s296 : Value) : Act := { tmps := #[s0, s1, s2, s3, s4, s5, s6, s7, s8, s9, s10, s11, .pointer (some ⟨bw, 0, none⟩), s13, s14, .pointer (some ⟨b, 0, none⟩), s16, s17, s18, s19, s20, s21, s22, s23, s24, s25, s26, s27, s28, s29, s30, s31, s32, s33, s34, s35, s36, s37, s38, s39, s40, s41, s42, s43, s44, s45, s46, s47, s48, s49, s50, s51, s52, s53, s54, s55, s56, s57, s58, s59, s60, s61, s62, s63, s64, s65, s66, s67, s68, s69, s70, s71, s72, s73, s74, s75, s76, s77, s78, s79, s80, s81, s82, s83, s84, s85, s86, s87, s88, s89, s90, s91, s92, s93, s94, s95, s96, s97, s98, s99, s100, s101, s102, s103, s104, s105, s106, s107, s108, s109, s110, s111, s112, s113, s114, s115, s116, s117, s118, s119, s120, s121, s122, s123, s124, s125, s126, s127, s128, s129, s130, s131, s132, s133, s134, s135, s136, s137, s138, s139, s140, s141, s142, s143, s144, s145, s146, s147, s148, s149, s150, s151, s152, s153, s154, s155, s156, s157, s158, s159, s160, s161, s162, s163, s164, s165, s166, s167, s168, s169, s170, s171, s172, s173, s174, s175, s176, s177, s178, s179, s180, s181, s182, s183, s184, s185, s186, s187, s188, s189, s190, s191, s192, s193, s194, s195, s196, s197, s198, s199, s200, s201, s202, s203, s204, s205, s206, s207, s208, s209, s210, s211, s212, s213, s214, s215, s216, s217, s218, s219, s220, s221, s222, s223, s224, s225, s226, s227, s228, s229, s230, s231, s232, s233, s234, s235, s236, s237, s238, s239, s240, s241, s242, s243, s244, s245, s246, s247, s248, s249, s250, s251, s252, s253, s254, s255, t256, t257, t258, t259, t260, t261, t262, t263, t264, t265, t266, t267, s268, s269, s270, s271, s272, s273, s274, s275, s276, s277, s278, s279, s280, s281, s282, s283, s284, s285, s286, s287, s288, s289, s290, s291, s292, s293, s294, s295, s296], defers := [] }
theorem ra7 {Q : Exit → Act → World → Prop} {b n bw : Nat} {p : Wri} {wr : World}  {s0 s1 s2 s3 s4 s5 s6 s7 s8 s9 s10 s11 s13 s14 s16 s17 s18 s19 s20 s21 s22 s23 s24 s25 s26 s27 s28 s29 s30 s31 s32 s33 s34 s35 s36 s37 s38 s39 s40 s41 s42 s43 s44 s45 s46 s47 s48 s49 s50 s51 s52 s53 s54 s55 s56 s57 s58 s59 s60 s61 s62 s63 s64 s65 s66 s67 s68 s69 s70 s71 s72 s73 s74 s75 s76 s77 s78 s79 s80 s81 s82 s83 s84 s85 s86 s87 s88 s89 s90 s91 s92 s93 s94 s95 s96 s97 s98 s99 s100 s101 s102 s103 s104 s105 s106 s107 s108 s109 s110 s111 s112 s113 s114 s115 s116 s117 s118 s119 s120 s121 s122 s123 s124 s125 s126 s127 s128 s129 s130 s131 s132 s133 s134 s135 s136 s137 s138 s139 s140 s141 s142 s143 s144 s145 s146 s147 s148 s149 s150 s151 s152 s153 s154 s155 s156 s157 s158 s159 s160 s161 s162 s163 s164 s165 s166 s167 s168 s169 s170 s171 s172 s173 s174 s175 s176 s177 s178 s179 s180 s181 s182 s183 s184 s185 s186 s187 s188 s189 s190 s191 s192 s193 s194 s195 s196 s197 s198 s199 s200 s201 s202 s203 s204 s205 s206 s207 s208 s209 s210 s211 s212 s213 s214 s215 s216 s217 s218 s219 s220 s221 s222 s223 s224 s225 s226 s227 s228 s229 s230 s231 s232 s233 s234 s235 s236 s237 s238 s239 s240 s241 s242 s243 s244 s245 s246 s247 s248 s249 s250 s251 s252 s253 s254 s255 s256 s257 s258 s259 s260 s261 s262 s263 s264 s265 s266 s267 s268 s269 s270 s271 s272 s273 s274 s275 s276 s277 s278 s279 s280 s281 s282 s283 s284 s285 s286 s287 s288 s289 s290 s291 s292 s293 s294 s295 s296 : Value} (TP0 : Tp wr b n) (BW0 : Row wr bw 65 [.int .i64 p.kind, .int .i64 p.unit, .int .i64 p.value]) (hbw : bw ≠ b)
    (h' : ∀ t256 t257 t258 t259 t260 t261 t262 t263 t264 t265 t266 t267 wx g, Mv b n wr wx → t265 = .slice (some ⟨g, 0, none⟩) 3 3 → t266 = .int .i64 3 → t267 = .int .i64 0 → WTri wr.heap.size p wx g → Q .normal (ra7A b bw t256 t257 t258 t259 t260 t261 t262 t263 t264 t265 t266 t267 s0 s1 s2 s3 s4 s5 s6 s7 s8 s9 s10 s11 s13 s14 s16 s17 s18 s19 s20 s21 s22 s23 s24 s25 s26 s27 s28 s29 s30 s31 s32 s33 s34 s35 s36 s37 s38 s39 s40 s41 s42 s43 s44 s45 s46 s47 s48 s49 s50 s51 s52 s53 s54 s55 s56 s57 s58 s59 s60 s61 s62 s63 s64 s65 s66 s67 s68 s69 s70 s71 s72 s73 s74 s75 s76 s77 s78 s79 s80 s81 s82 s83 s84 s85 s86 s87 s88 s89 s90 s91 s92 s93 s94 s95 s96 s97 s98 s99 s100 s101 s102 s103 s104 s105 s106 s107 s108 s109 s110 s111 s112 s113 s114 s115 s116 s117 s118 s119 s120 s121 s122 s123 s124 s125 s126 s127 s128 s129 s130 s131 s132 s133 s134 s135 s136 s137 s138 s139 s140 s141 s142 s143 s144 s145 s146 s147 s148 s149 s150 s151 s152 s153 s154 s155 s156 s157 s158 s159 s160 s161 s162 s163 s164 s165 s166 s167 s168 s169 s170 s171 s172 s173 s174 s175 s176 s177 s178 s179 s180 s181 s182 s183 s184 s185 s186 s187 s188 s189 s190 s191 s192 s193 s194 s195 s196 s197 s198 s199 s200 s201 s202 s203 s204 s205 s206 s207 s208 s209 s210 s211 s212 s213 s214 s215 s216 s217 s218 s219 s220 s221 s222 s223 s224 s225 s226 s227 s228 s229 s230 s231 s232 s233 s234 s235 s236 s237 s238 s239 s240 s241 s242 s243 s244 s245 s246 s247 s248 s249 s250 s251 s252 s253 s254 s255 s268 s269 s270 s271 s272 s273 s274 s275 s276 s277 s278 s279 s280 s281 s282 s283 s284 s285 s286 s287 s288 s289 s290 s291 s292 s293 s294 s295 s296) wx) :
    (Code.region 34 (regIn 34 Tryz.f5) true).wp Tryz.prog Q { tmps := #[s0, s1, s2, s3, s4, s5, s6, s7, s8, s9, s10, s11, .pointer (some ⟨bw, 0, none⟩), s13, s14, .pointer (some ⟨b, 0, none⟩), s16, s17, s18, s19, s20, s21, s22, s23, s24, s25, s26, s27, s28, s29, s30, s31, s32, s33, s34, s35, s36, s37, s38, s39, s40, s41, s42, s43, s44, s45, s46, s47, s48, s49, s50, s51, s52, s53, s54, s55, s56, s57, s58, s59, s60, s61, s62, s63, s64, s65, s66, s67, s68, s69, s70, s71, s72, s73, s74, s75, s76, s77, s78, s79, s80, s81, s82, s83, s84, s85, s86, s87, s88, s89, s90, s91, s92, s93, s94, s95, s96, s97, s98, s99, s100, s101, s102, s103, s104, s105, s106, s107, s108, s109, s110, s111, s112, s113, s114, s115, s116, s117, s118, s119, s120, s121, s122, s123, s124, s125, s126, s127, s128, s129, s130, s131, s132, s133, s134, s135, s136, s137, s138, s139, s140, s141, s142, s143, s144, s145, s146, s147, s148, s149, s150, s151, s152, s153, s154, s155, s156, s157, s158, s159, s160, s161, s162, s163, s164, s165, s166, s167, s168, s169, s170, s171, s172, s173, s174, s175, s176, s177, s178, s179, s180, s181, s182, s183, s184, s185, s186, s187, s188, s189, s190, s191, s192, s193, s194, s195, s196, s197, s198, s199, s200, s201, s202, s203, s204, s205, s206, s207, s208, s209, s210, s211, s212, s213, s214, s215, s216, s217, s218, s219, s220, s221, s222, s223, s224, s225, s226, s227, s228, s229, s230, s231, s232, s233, s234, s235, s236, s237, s238, s239, s240, s241, s242, s243, s244, s245, s246, s247, s248, s249, s250, s251, s252, s253, s254, s255, s256, s257, s258, s259, s260, s261, s262, s263, s264, s265, s266, s267, s268, s269, s270, s271, s272, s273, s274, s275, s276, s277, s278, s279, s280, s281, s282, s283, s284, s285, s286, s287, s288, s289, s290, s291, s292, s293, s294, s295, s296], defers := [] } wr := by
  have TP := PLift.up TP0
  have HBW := PLift.up TP0.has
  have BW := PLift.up BW0
  clear TP0 BW0
  simp only [regIn, Tryz.f5, regOps, Option.bind_some, Option.getD_some, Nat.beq, cond_true, cond_false]
  refine wp_region_steps (fun done a w => ∃ t256 t257 t258 t259 t260 t261 t262 t263 t264 t265 t266 t267, a = ra7A b bw t256 t257 t258 t259 t260 t261 t262 t263 t264 t265 t266 t267 s0 s1 s2 s3 s4 s5 s6 s7 s8 s9 s10 s11 s13 s14 s16 s17 s18 s19 s20 s21 s22 s23 s24 s25 s26 s27 s28 s29 s30 s31 s32 s33 s34 s35 s36 s37 s38 s39 s40 s41 s42 s43 s44 s45 s46 s47 s48 s49 s50 s51 s52 s53 s54 s55 s56 s57 s58 s59 s60 s61 s62 s63 s64 s65 s66 s67 s68 s69 s70 s71 s72 s73 s74 s75 s76 s77 s78 s79 s80 s81 s82 s83 s84 s85 s86 s87 s88 s89 s90 s91 s92 s93 s94 s95 s96 s97 s98 s99 s100 s101 s102 s103 s104 s105 s106 s107 s108 s109 s110 s111 s112 s113 s114 s115 s116 s117 s118 s119 s120 s121 s122 s123 s124 s125 s126 s127 s128 s129 s130 s131 s132 s133 s134 s135 s136 s137 s138 s139 s140 s141 s142 s143 s144 s145 s146 s147 s148 s149 s150 s151 s152 s153 s154 s155 s156 s157 s158 s159 s160 s161 s162 s163 s164 s165 s166 s167 s168 s169 s170 s171 s172 s173 s174 s175 s176 s177 s178 s179 s180 s181 s182 s183 s184 s185 s186 s187 s188 s189 s190 s191 s192 s193 s194 s195 s196 s197 s198 s199 s200 s201 s202 s203 s204 s205 s206 s207 s208 s209 s210 s211 s212 s213 s214 s215 s216 s217 s218 s219 s220 s221 s222 s223 s224 s225 s226 s227 s228 s229 s230 s231 s232 s233 s234 s235 s236 s237 s238 s239 s240 s241 s242 s243 s244 s245 s246 s247 s248 s249 s250 s251 s252 s253 s254 s255 s268 s269 s270 s271 s272 s273 s274 s275 s276 s277 s278 s279 s280 s281 s282 s283 s284 s285 s286 s287 s288 s289 s290 s291 s292 s293 s294 s295 s296 ∧ ra7F b n bw p wr t256 t257 t258 t259 t260 t261 t262 t263 t264 t265 t266 t267 done w) (by kernel_rfl) (by kernel_rfl) ?_ ⟨?_, ?_, ?_, ?_, ?_, ?_, ?_, ?_, ?_, ?_, ?_, ?_, trivial⟩ ?_
  · exact ⟨s256, s257, s258, s259, s260, s261, s262, s263, s264, s265, s266, s267, rfl, (Mv.refl TP.down).gr (Gr.refl _).drew, fun q => absurd q (by decide), fun q => absurd q (by decide), fun q => absurd q (by decide), fun q => absurd q (by decide), fun q => absurd q (by decide), fun q => absurd q (by decide), fun q => absurd q (by decide), fun q => absurd q (by decide), fun q => absurd q (by decide), fun q => absurd q (by decide), fun q => absurd q (by decide), fun q => absurd q (by decide)⟩
  · rintro done a w hsz hnot hdep ⟨t256, t257, t258, t259, t260, t261, t262, t263, t264, t265, t266, t267, rfl, gw, f0, f1, f2, f3, f4, f5, f6, f7, f8, f9, f10, f11⟩ K hK
    have hn : ¬ done.getD 0 false = true := by rw [getD_both hnot]; decide
    have RW := gw.row BW.down hbw
    have c0 := RW.cell 0 (by simp)
    have c1 := RW.cell 1 (by simp)
    have c2 := RW.cell 2 (by simp)
    have ch := RW.has
    have GW := PLift.up gw
    clear gw RW
    simp only [List.getElem_cons_zero, List.getElem_cons_succ] at c0 c1 c2
    have HK := PLift.up hK
    clear hK 
    simp only [ra7A]
    go_simp
    have gg : Gr w w := Gr.refl _
    refine HK.down _ _ ⟨_, _, _, _, _, _, _, _, _, _, _, _, rfl, GW.down, fun _ => rfl, kp f1, kp f2, kp f3, kp f4, kp f5, kp f6, kp f7, kp f8, kp f9, kp f10, kp f11⟩
  · rintro done a w hsz hnot hdep ⟨t256, t257, t258, t259, t260, t261, t262, t263, t264, t265, t266, t267, rfl, gw, f0, f1, f2, f3, f4, f5, f6, f7, f8, f9, f10, f11⟩ K hK
    have hn : ¬ done.getD 1 false = true := by rw [getD_both hnot]; decide
    have HK := PLift.up hK
    clear hK 
    simp only [ra7A]
    go_simp
    have gg : Gr w w := Gr.refl _
    refine HK.down _ _ ⟨_, _, _, _, _, _, _, _, _, _, _, _, rfl, gw, kp f0, fun _ => rfl, kp f2, kp f3, kp f4, kp f5, kp f6, kp f7, kp f8, kp f9, kp f10, kp f11⟩
  · rintro done a w hsz hnot hdep ⟨t256, t257, t258, t259, t260, t261, t262, t263, t264, t265, t266, t267, rfl, gw, f0, f1, f2, f3, f4, f5, f6, f7, f8, f9, f10, f11⟩ K hK
    have hn : ¬ done.getD 2 false = true := by rw [getD_both hnot]; decide
    have d1 := hdep 1 (by kernel_rfl)
    obtain rfl := f1 d1
    have HB := PLift.up gw
    clear gw
    have HK := PLift.up hK
    clear hK d1
    simp only [ra7A]
    go_simp
    refine (rangeM_any w b n (-1) 8 (HB.down.tp TP.down) (by omega) (by omega) (by omega)).mono ?_
    rintro e w2 ⟨y, rfl, ⟨y0, y1⟩, hm⟩
    (try go_simp)
    refine HK.down _ _ ⟨_, _, _, _, _, _, _, _, _, _, _, _, rfl, HB.down.trans HBW.down hm, kp f0, kp f1, ?_, kp f3, kp f4, kp f5, kp f6, kp f7, kp f8, fun q => tri_mv (f9 (done_old q (by decide))) HBW.down hm, kp f10, kp f11⟩
    exact fun _ => ⟨y, rfl, by unfold Wide; omega⟩
  · rintro done a w hsz hnot hdep ⟨t256, t257, t258, t259, t260, t261, t262, t263, t264, t265, t266, t267, rfl, gw, f0, f1, f2, f3, f4, f5, f6, f7, f8, f9, f10, f11⟩ K hK
    have hn : ¬ done.getD 3 false = true := by rw [getD_both hnot]; decide
    have HK := PLift.up hK
    clear hK 
    simp only [ra7A]
    go_simp
    have gg : Gr w w := Gr.refl _
    refine HK.down _ _ ⟨_, _, _, _, _, _, _, _, _, _, _, _, rfl, gw, kp f0, kp f1, kp f2, fun _ => rfl, kp f4, kp f5, kp f6, kp f7, kp f8, kp f9, kp f10, kp f11⟩
  · rintro done a w hsz hnot hdep ⟨t256, t257, t258, t259, t260, t261, t262, t263, t264, t265, t266, t267, rfl, gw, f0, f1, f2, f3, f4, f5, f6, f7, f8, f9, f10, f11⟩ K hK
    have hn : ¬ done.getD 4 false = true := by rw [getD_both hnot]; decide
    have d3 := hdep 3 (by kernel_rfl)
    obtain rfl := f3 d3
    have HB := PLift.up gw
    clear gw
    have HK := PLift.up hK
    clear hK d3
    simp only [ra7A]
    go_simp
    refine (rangeM_any w b n (-1) 4 (HB.down.tp TP.down) (by omega) (by omega) (by omega)).mono ?_
    rintro e w2 ⟨y, rfl, ⟨y0, y1⟩, hm⟩
    (try go_simp)
    refine HK.down _ _ ⟨_, _, _, _, _, _, _, _, _, _, _, _, rfl, HB.down.trans HBW.down hm, kp f0, kp f1, kp f2, kp f3, ?_, kp f5, kp f6, kp f7, kp f8, fun q => tri_mv (f9 (done_old q (by decide))) HBW.down hm, kp f10, kp f11⟩
    exact fun _ => ⟨y, rfl, by unfold Wide; omega⟩
  · rintro done a w hsz hnot hdep ⟨t256, t257, t258, t259, t260, t261, t262, t263, t264, t265, t266, t267, rfl, gw, f0, f1, f2, f3, f4, f5, f6, f7, f8, f9, f10, f11⟩ K hK
    have hn : ¬ done.getD 5 false = true := by rw [getD_both hnot]; decide
    have d2 := hdep 2 (by kernel_rfl)
    have d4 := hdep 4 (by kernel_rfl)
    obtain ⟨x, rfl, vx⟩ := f2 d2
    obtain ⟨y, rfl, vy⟩ := f4 d4
    have V := PLift.up (And.intro vx vy)
    clear d2 d4 vx vy
    have HK := PLift.up hK
    clear hK 
    simp only [ra7A]
    go_simp
    have gg : Gr w w := Gr.refl _
    refine HK.down _ _ ⟨_, _, _, _, _, _, _, _, _, _, _, _, rfl, gw, kp f0, kp f1, fun _ => ⟨x, rfl, V.down.1⟩, kp f3, fun _ => ⟨y, rfl, V.down.2⟩, ?_, kp f6, kp f7, kp f8, kp f9, kp f10, kp f11⟩
    exact fun _ => ⟨x, y, rfl, V.down.1, V.down.2⟩
  · rintro done a w hsz hnot hdep ⟨t256, t257, t258, t259, t260, t261, t262, t263, t264, t265, t266, t267, rfl, gw, f0, f1, f2, f3, f4, f5, f6, f7, f8, f9, f10, f11⟩ K hK
    have hn : ¬ done.getD 6 false = true := by rw [getD_both hnot]; decide
    have HK := PLift.up hK
    clear hK 
    simp only [ra7A]
    go_simp
    have gg : Gr w w := Gr.refl _
    refine HK.down _ _ ⟨_, _, _, _, _, _, _, _, _, _, _, _, rfl, gw, kp f0, kp f1, kp f2, kp f3, kp f4, kp f5, fun _ => rfl, kp f7, kp f8, kp f9, kp f10, kp f11⟩
  · rintro done a w hsz hnot hdep ⟨t256, t257, t258, t259, t260, t261, t262, t263, t264, t265, t266, t267, rfl, gw, f0, f1, f2, f3, f4, f5, f6, f7, f8, f9, f10, f11⟩ K hK
    have hn : ¬ done.getD 7 false = true := by rw [getD_both hnot]; decide
    have d6 := hdep 6 (by kernel_rfl)
    obtain rfl := f6 d6
    have HB := PLift.up gw
    clear gw
    have HK := PLift.up hK
    clear hK d6
    simp only [ra7A]
    go_simp
    refine (rangeM_any w b n (0) 4 (HB.down.tp TP.down) (by omega) (by omega) (by omega)).mono ?_
    rintro e w2 ⟨y, rfl, ⟨y0, y1⟩, hm⟩
    (try go_simp)
    refine HK.down _ _ ⟨_, _, _, _, _, _, _, _, _, _, _, _, rfl, HB.down.trans HBW.down hm, kp f0, kp f1, kp f2, kp f3, kp f4, kp f5, kp f6, ?_, kp f8, fun q => tri_mv (f9 (done_old q (by decide))) HBW.down hm, kp f10, kp f11⟩
    exact fun _ => ⟨y, rfl, by unfold Wide; omega⟩
  · rintro done a w hsz hnot hdep ⟨t256, t257, t258, t259, t260, t261, t262, t263, t264, t265, t266, t267, rfl, gw, f0, f1, f2, f3, f4, f5, f6, f7, f8, f9, f10, f11⟩ K hK
    have hn : ¬ done.getD 8 false = true := by rw [getD_both hnot]; decide
    have d7 := hdep 7 (by kernel_rfl)
    obtain ⟨x, rfl, vx⟩ := f7 d7
    have V := PLift.up vx
    clear d7 vx
    have HK := PLift.up hK
    clear hK 
    simp only [ra7A]
    go_simp
    have gg : Gr w w := Gr.refl _
    refine HK.down _ _ ⟨_, _, _, _, _, _, _, _, _, _, _, _, rfl, gw, kp f0, kp f1, kp f2, kp f3, kp f4, kp f5, kp f6, fun _ => ⟨x, rfl, V.down⟩, ?_, kp f9, kp f10, kp f11⟩
    exact fun _ => ⟨x, rfl, V.down⟩
  · rintro done a w hsz hnot hdep ⟨t256, t257, t258, t259, t260, t261, t262, t263, t264, t265, t266, t267, rfl, gw, f0, f1, f2, f3, f4, f5, f6, f7, f8, f9, f10, f11⟩ K hK
    have hn : ¬ done.getD 9 false = true := by rw [getD_both hnot]; decide
    have d0 := hdep 0 (by kernel_rfl)
    have d5 := hdep 5 (by kernel_rfl)
    have d8 := hdep 8 (by kernel_rfl)
    obtain rfl := f0 d0
    obtain ⟨x, y, rfl, vx, vy⟩ := f5 d5
    obtain ⟨z, rfl, vz⟩ := f8 d8
    have V := PLift.up (And.intro vx (And.intro vy vz))
    have GW := PLift.up gw
    clear d5 d8 vx vy vz gw
    have HK := PLift.up hK
    clear hK d0
    simp only [ra7A]
    go_simp
    refine HK.down _ _ ⟨_, _, _, _, _, _, _, _, _, _, _, _, rfl, GW.down.gr ((Gr.refl _).alloc _), kp f0, kp f1, kp f2, kp f3, kp f4, fun _ => ⟨x, y, rfl, V.down.1, V.down.2.1⟩, kp f6, kp f7, fun _ => ⟨z, rfl, V.down.2.2⟩, ?_, kp f10, kp f11⟩
    exact fun _ => ⟨_, rfl, GW.down.size, x, y, z, V.down.1, V.down.2.1, V.down.2.2, Row.new _ _ _⟩
  · rintro done a w hsz hnot hdep ⟨t256, t257, t258, t259, t260, t261, t262, t263, t264, t265, t266, t267, rfl, gw, f0, f1, f2, f3, f4, f5, f6, f7, f8, f9, f10, f11⟩ K hK
    have hn : ¬ done.getD 10 false = true := by rw [getD_both hnot]; decide
    have d9 := hdep 9 (by kernel_rfl)
    obtain ⟨g, rfl, q9⟩ := f9 d9
    have V := PLift.up q9
    clear d9 q9
    have HK := PLift.up hK
    clear hK 
    simp only [ra7A]
    go_simp
    have gg : Gr w w := Gr.refl _
    refine HK.down _ _ ⟨_, _, _, _, _, _, _, _, _, _, _, _, rfl, gw, kp f0, kp f1, kp f2, kp f3, kp f4, kp f5, kp f6, kp f7, kp f8, fun _ => ⟨g, rfl, V.down⟩, fun _ => rfl, kp f11⟩
  · rintro done a w hsz hnot hdep ⟨t256, t257, t258, t259, t260, t261, t262, t263, t264, t265, t266, t267, rfl, gw, f0, f1, f2, f3, f4, f5, f6, f7, f8, f9, f10, f11⟩ K hK
    have hn : ¬ done.getD 11 false = true := by rw [getD_both hnot]; decide
    have HK := PLift.up hK
    clear hK 
    simp only [ra7A]
    go_simp
    have gg : Gr w w := Gr.refl _
    refine HK.down _ _ ⟨_, _, _, _, _, _, _, _, _, _, _, _, rfl, gw, kp f0, kp f1, kp f2, kp f3, kp f4, kp f5, kp f6, kp f7, kp f8, kp f9, kp f10, fun _ => rfl⟩
  · rintro done a w hall ⟨t256, t257, t258, t259, t260, t261, t262, t263, t264, t265, t266, t267, rfl, gw, f0, f1, f2, f3, f4, f5, f6, f7, f8, f9, f10, f11⟩
    obtain ⟨g, e9, q9⟩ := f9 (hall 9 (by decide))
    exact h' _ _ _ _ _ _ _ _ _ _ _ _ w g gw e9 (f10 (hall 10 (by decide))) (f11 (hall 11 (by decide))) q9
def bpK (t : CT) : Option Nat := (Value.slice t.ap t.c.parents.length t.cp).ownBlock
def bcK (t : CT) : Option Nat := (Value.slice t.ac t.c.choices.length t.cc).ownBlock
def ParO (base : Nat) (w : World) (t : CT) : Prop := w.ownsRow base 3 1 (.slice t.ap t.c.parents.length t.cp) t.c.parents.length (nums t.c.parents)
def ChoO' (base : Nat) (w : World) (t : CT) : Prop := w.ownsRow base 3 1 (.slice t.ac t.c.choices.length t.cc) t.c.choices.length (nums t.c.choices)
structure KOwn (base : Nat) (w : World) (ts : List CT) : Prop where
  par : ∀ t ∈ ts, ParO base w t
  cho : ∀ t ∈ ts, ChoO' base w t
  two : ts.Pairwise fun x y => bpK x ≠ bpK y ∧ bcK x ≠ bcK y ∧ bpK x ≠ bcK y ∧ bcK x ≠ bpK y
  one : ∀ t ∈ ts, bpK t ≠ bcK t
def ClkWd (c : Clk) : Prop := (Wide c.kind ∧ Wide c.low ∧ Wide c.high) ∧ c.parents.length ≤ 1000 ∧ c.choices.length ≤ 1000 ∧ (∀ y ∈ c.parents, Wide y) ∧ ∀ y ∈ c.choices, Wide y
theorem clk_read {base base' : Nat} {w : World} {A : Option Addr} {cap n : Nat} {ts : List CT} (hn : ts.length = n) (h : w.ownsRow base 79 5 (.slice A n cap) n (ts.flatMap encC)) (hp : ∀ t ∈ ts, ParO base' w t) (hc : ∀ t ∈ ts, ChoO' base' w t) (hw : ∀ t ∈ ts, ClkWd t.c) : SlOf 5 RClk w A (ts.map (·.c)) := by
  intro k hk
  have hk' : k < ts.length := by simpa using hk
  obtain ⟨g, cap', e, _, _, hcl⟩ := owns_cell h (by omega)
  cases e
  refine ⟨g, 0, rfl, ?_⟩
  have hf := fun j (hj : j < 5) => flat_at encC 5 encC_len ts k j hk' hj
  have h2 : ∀ j, j < 5 → w.cell? ⟨g, k * 5 + j, none⟩ = (encC ts[k])[j]? := fun j hj => by
    rw [hcl (k * 5 + j) (by omega), hf j hj]
  rw [Nat.zero_add]
  obtain ⟨⟨a0, a3, a4⟩, l1, l2, w1, w2⟩ := hw ts[k] (List.getElem_mem hk')
  obtain ⟨p1, c1, e1, hcc1, o1⟩ := owns_own1 (hp ts[k] (List.getElem_mem hk'))
  obtain ⟨p2, c2, e2, hcc2, o2⟩ := owns_own1 (hc ts[k] (List.getElem_mem hk'))
  rw [List.getElem_map]
  have q1 : ts[k].ap = p1 ∧ ts[k].cp = c1 := by injection e1 with x1 _ x3; exact ⟨x1, x3⟩
  have q2 : ts[k].ac = p2 ∧ ts[k].cc = c2 := by injection e2 with x1 _ x3; exact ⟨x1, x3⟩
  exact ⟨⟨h2 0 (by omega), a0⟩, ⟨_, _, h2 1 (by omega), by rw [q1.2]; exact hcc1, by unfold Fit; omega, by rw [q1.1]; exact o1.slI fun j hj => w1 _ (List.getElem_mem hj)⟩,
    ⟨_, _, h2 2 (by omega), by rw [q2.2]; exact hcc2, by unfold Fit; omega, by rw [q2.1]; exact o2.slI fun j hj => w2 _ (List.getElem_mem hj)⟩, ⟨h2 3 (by omega), a3⟩, ⟨h2 4 (by omega), a4⟩⟩
section
variable {base : Nat} {w w' : World} {ts : List CT}
theorem KOwn.gr (h : KOwn base w ts) (hg : Gr w w') : KOwn base w' ts := ⟨fun t ht => Gr.owns (h.par t ht) hg, fun t ht => Gr.owns (h.cho t ht) hg, h.two, h.one⟩
theorem KOwn.mv {b len : Nat} (h : KOwn base w ts) (hm : Mv b len w w') (hb : b < base) : KOwn base w' ts := ⟨fun t ht => hm.owns (h.par t ht) hb, fun t ht => hm.owns (h.cho t ht) hb, h.two, h.one⟩
theorem KOwn.oth {base' e size n : Nat} {v : Value} {us : List Value} (h : KOwn base w ts) (o : w.ownsRow base' e size v n us) (he : e ≠ 3) (hg : w.grownBy w' v.ownBlock) : KOwn base w' ts :=
  ⟨fun t ht => World.ownsRow.kept (h.par t ht) hg (owns_two o (h.par t ht) he), fun t ht => World.ownsRow.kept (h.cho t ht) hg (owns_two o (h.cho t ht) he), h.two, h.one⟩
theorem KOwn.snoc {t : CT} (h : KOwn base w ts) (hp : ParO base w t) (hc : ChoO' base w t) (h1 : bpK t ≠ bcK t) (hn : ∀ y ∈ ts, bpK y ≠ bpK t ∧ bcK y ≠ bcK t ∧ bpK y ≠ bcK t ∧ bcK y ≠ bpK t) : KOwn base w (ts ++ [t]) := by
  refine ⟨fun y hy => ?_, fun y hy => ?_, ?_, fun y hy => ?_⟩
  · rcases List.mem_append.1 hy with hy | hy
    · exact h.par y hy
    · rw [List.mem_singleton.1 hy]; exact hp
  · rcases List.mem_append.1 hy with hy | hy
    · exact h.cho y hy
    · rw [List.mem_singleton.1 hy]; exact hc
  · rw [List.pairwise_append]
    exact ⟨h.two, by simp, fun y hy z hz => by rw [List.mem_singleton.1 hz]; exact hn y hy⟩
  · rcases List.mem_append.1 hy with hy | hy
    · exact h.one y hy
    · rw [List.mem_singleton.1 hy]; exact h1
end
structure KPl (b len : Nat) (w : World) (ts : List CT) (A : Option Addr) (cap : Nat) (W : World) : Prop where
  own : W.ownsRow w.heap.size 79 5 (.slice A ts.length cap) ts.length (ts.flatMap encC)
  par : ∀ t ∈ ts, ParO w.heap.size W t
  cho : ∀ t ∈ ts, ChoO' w.heap.size W t
  wd : ∀ t ∈ ts, ClkWd t.c
  mv : Mv b len w W
theorem KPl.read {b len : Nat} {w W : World} {ts : List CT} {A : Option Addr} {cap : Nat} (h : KPl b len w ts A cap W) : SlOf 5 RClk W A (ts.map (·.c)) := clk_read rfl h.own h.par h.cho h.wd
theorem KPl.mvd {b len : Nat} {w W W' : World} {ts : List CT} {A : Option Addr} {cap : Nat} (h : KPl b len w ts A cap W) (hb : b < w.heap.size) (m : Mv b len W W') : KPl b len w ts A cap W' :=
  ⟨m.owns h.own hb, fun t ht => m.owns (h.par t ht) hb, fun t ht => m.owns (h.cho t ht) hb, h.wd, h.mv.trans hb m⟩
def GivesClks (b len : Nat) (w : World) (e : Ending) (w' : World) : Prop :=
  ∃ (ts : List CT) (A : Option Addr) (cap : Nat), e = .returned (.slice A ts.length cap) ∧ ts.length ≤ 1000 ∧ KPl b len w ts A cap w'
theorem KPl.gives {b len : Nat} {w W : World} {ts : List CT} {A : Option Addr} {cap : Nat} (h : KPl b len w ts A cap W) (hl : ts.length ≤ 1000) : GivesClks b len w (.returned (.slice A ts.length cap)) W := ⟨ts, A, cap, rfl, hl, h⟩
structure KSt (b len : Nat) (w : World) (ts : List CT) (g cap : Nat) (W : World) : Prop where
  own : W.ownsRow w.heap.size 79 5 (.slice (some ⟨g, 0, none⟩) ts.length cap) ts.length (ts.flatMap encC)
  lst : KOwn w.heap.size W ts
  wd : ∀ t ∈ ts, ClkWd t.c
  mv : Mv b len w W
section
variable {b len : Nat} {w W W' : World} {ts : List CT} {g cap : Nat}
theorem KSt.gr (h : KSt b len w ts g cap W) (hg : Gr W W') : KSt b len w ts g cap W' := ⟨Gr.owns h.own hg, h.lst.gr hg, h.wd, h.mv.gr hg⟩
theorem KSt.mvd (h : KSt b len w ts g cap W) (hb : b < w.heap.size) (m : Mv b len W W') : KSt b len w ts g cap W' := ⟨m.owns h.own hb, h.lst.mv m hb, h.wd, h.mv.trans hb m⟩
theorem KSt.low (h : KSt b len w ts g cap W) : w.heap.size ≤ g := (h.own.lt g rfl).1
theorem KSt.at (h : KSt b len w ts g cap W) {k : Nat} (hk : k < ts.length) : W.cell? ⟨g, k * 5, none⟩ = some (.int .i64 ts[k].c.kind) ∧ W.cell? ⟨g, k * 5 + 1, none⟩ = some (.slice ts[k].ap ts[k].c.parents.length ts[k].cp) ∧ W.cell? ⟨g, k * 5 + 2, none⟩ = some (.slice ts[k].ac ts[k].c.choices.length ts[k].cc) ∧
    W.cell? ⟨g, k * 5 + 3, none⟩ = some (.int .i64 ts[k].c.low) ∧ W.cell? ⟨g, k * 5 + 4, none⟩ = some (.int .i64 ts[k].c.high) ∧ Has W g ∧ ∀ j, W.frozen? ⟨g, j, none⟩ = false := by
  have hf := fun j (hj : j < 5) => flat_at encC 5 encC_len ts k j hk hj
  have h0 : W.cell? ⟨g, k * 5, none⟩ = some (.int .i64 ts[k].c.kind) := by rw [h.own.cellAt (k * 5) (by omega)]; exact (hf 0 (by omega)).trans rfl
  have hj : ∀ j, j < 5 → W.cell? ⟨g, k * 5 + j, none⟩ = (encC ts[k])[j]? := fun j hj => by rw [h.own.cellAt (k * 5 + j) (by omega), hf j hj]
  exact ⟨h0, (hj 1 (by omega)).trans rfl, (hj 2 (by omega)).trans rfl, (hj 3 (by omega)).trans rfl, (hj 4 (by omega)).trans rfl, has_of_cell h0, fun j => h.own.frozenAt j⟩
theorem encC_put (ts : List CT) (i : Nat) (hi : i < ts.length) (j : Nat) (hj : j < 5) (v : Value) (t : CT) (he : encC t = (encC ts[i]).set j v) : (ts.flatMap encC).set (i * 5 + j) v = (ts.set i t).flatMap encC := by
  induction ts generalizing i with
  | nil => simp at hi
  | cons x xs ih =>
    cases i with
    | zero =>
      simp only [List.getElem_cons_zero] at he
      simp only [List.flatMap_cons, List.set_cons_zero, Nat.zero_mul, Nat.zero_add]
      rw [List.set_append_left _ _ (by rw [encC_len]; exact hj), he]
    | succ i =>
      have := ih i (by simpa using hi) (by simpa using he)
      simp only [List.flatMap_cons, List.set_cons_succ]
      rw [List.set_append_right _ _ (by rw [encC_len]; omega), encC_len, show (i + 1) * 5 + j - 5 = i * 5 + j by omega, this]
theorem KSt.put (h : KSt b len w ts g cap W) (hl : ts.length ≤ 1000) {k : Nat} (hk : k < ts.length) {W1 : World} (ho : W1.ownsRow w.heap.size 79 5 (.slice (some ⟨g, 0, none⟩) ts.length cap) ts.length (ts.flatMap encC)) (hm : Mv b len w W1) {j : Nat} (hj : j < 5) (t : CT) (v : Value) (he : encC t = (encC ts[k]).set j v) (hw : ClkWd t.c)
    (hp : ParO w.heap.size W1 t) (hc : ChoO' w.heap.size W1 t) (hq : ∀ i (hi : i < ts.length), i ≠ k → ParO w.heap.size W1 ts[i] ∧ ChoO' w.heap.size W1 ts[i]) {n : Nat} (hn : ts.length = n) : GivesClks b len w (.returned (.slice (some ⟨g, 0, none⟩) n cap)) (W1.setCell ⟨g, k * 5 + j, none⟩ v) := by
  subst hn
  have hs := grownBy_set W1 g (k * 5 + j) v
  have hput := owns_put ho (j := k * 5 + j) (by omega) v
  rw [encC_put ts k hk j hj v t he] at hput
  have keep : ∀ {q : CT}, ParO w.heap.size W1 q → ParO w.heap.size (W1.setCell ⟨g, k * 5 + j, none⟩ v) q := fun {q} h1 => World.ownsRow.kept h1 hs (owns_two ho h1 (by decide))
  have keep2 : ∀ {q : CT}, ChoO' w.heap.size W1 q → ChoO' w.heap.size (W1.setCell ⟨g, k * 5 + j, none⟩ v) q := fun {q} h1 => World.ownsRow.kept h1 hs (owns_two ho h1 (by decide))
  refine ⟨ts.set k t, some ⟨g, 0, none⟩, cap, by rw [List.length_set], by simpa using hl, by simpa using hput,
    (fun q hq2 => by
      obtain ⟨i, hi, rfl⟩ := List.getElem_of_mem hq2
      have hi' : i < ts.length := by simpa using hi
      rw [List.getElem_set]
      split
      · exact keep hp
      · rename_i hne; exact keep (hq i hi' (fun e => hne e.symm)).1),
    (fun q hq2 => by
      obtain ⟨i, hi, rfl⟩ := List.getElem_of_mem hq2
      have hi' : i < ts.length := by simpa using hi
      rw [List.getElem_set]
      split
      · exact keep2 hc
      · rename_i hne; exact keep2 (hq i hi' (fun e => hne e.symm)).2),
    (fun q hq2 => by
      rcases mem_set_or hq2 with rfl | hq2
      · exact hw
      · exact h.wd _ hq2), hm.setc h.low⟩
theorem KSt.num (h : KSt b len w ts g cap W) (hl : ts.length ≤ 1000) {k : Nat} (hk : k < ts.length) {j : Nat} (hj : j < 5) (t : CT) (v : Value) (he : encC t = (encC ts[k]).set j v) (hw : ClkWd t.c) (h1 : t.ap = ts[k].ap ∧ t.cp = ts[k].cp ∧ t.ac = ts[k].ac ∧ t.cc = ts[k].cc ∧ t.c.parents = ts[k].c.parents ∧ t.c.choices = ts[k].c.choices) {n : Nat} (hn : ts.length = n) : GivesClks b len w (.returned (.slice (some ⟨g, 0, none⟩) n cap)) (W.setCell ⟨g, k * 5 + j, none⟩ v) := by
  refine h.put hl hk h.own h.mv hj t v he hw ?_ ?_ (fun i hi _ => ⟨h.lst.par _ (List.getElem_mem hi), h.lst.cho _ (List.getElem_mem hi)⟩) hn
  · have := h.lst.par _ (List.getElem_mem hk)
    unfold ParO at this ⊢
    rw [h1.1, h1.2.1, h1.2.2.2.2.1]; exact this
  · have := h.lst.cho _ (List.getElem_mem hk)
    unfold ChoO' at this ⊢
    rw [h1.2.2.1, h1.2.2.2.1, h1.2.2.2.2.2]; exact this
theorem KSt.nochoice (h : KSt b len w ts g cap W) (hl : ts.length ≤ 1000) {k : Nat} (hk : k < ts.length) {n : Nat} (hn : ts.length = n) : GivesClks b len w (.returned (.slice (some ⟨g, 0, none⟩) n cap)) (W.setCell ⟨g, k * 5 + 2, none⟩ (.slice none 0 0)) := by
  obtain ⟨a, b1, c1, d1, e1⟩ := h.wd _ (List.getElem_mem hk)
  refine h.put hl hk h.own h.mv (j := 2) (by omega) ⟨⟨ts[k].c.kind, ts[k].c.parents, [], ts[k].c.low, ts[k].c.high⟩, ts[k].ap, ts[k].cp, Option.none, 0⟩ (.slice Option.none 0 0) rfl ⟨a, b1, by simp, d1, by simp⟩ (by have := h.lst.par _ (List.getElem_mem hk); exact this) (World.ownsRow_nil _ w.heap.size _ _) (fun i hi _ => ⟨h.lst.par _ (List.getElem_mem hi), h.lst.cho _ (List.getElem_mem hi)⟩) hn
theorem two_at {α : Type} {R : α → α → Prop} {xs : List α} (h : xs.Pairwise R) {i k : Nat} (hi : i < xs.length) (hk : k < xs.length) (hne : i ≠ k) : R xs[i] xs[k] ∨ R xs[k] xs[i] := by
  have p := List.pairwise_iff_getElem.1 h
  rcases Nat.lt_or_gt_of_ne hne with q | q
  · exact .inl (p i k hi hk q)
  · exact .inr (p k i hk hi q)
theorem KSt.pars (h : KSt b len w ts g cap W) (hl : ts.length ≤ 1000) {k : Nat} (hk : k < ts.length) {ns : List Int} (hns : ns.length ≤ 1000) (hw : ∀ y ∈ ns, Wide y) {W1 : World} {A : Option Addr} {m c : Nat} (hm : ns.length = m) (ho : W1.ownsRow w.heap.size 3 1 (.slice A m c) m (nums ns)) (hg : W.grownBy W1 (bpK ts[k])) {n : Nat} (hn : ts.length = n) :
    GivesClks b len w (.returned (.slice (some ⟨g, 0, none⟩) n cap)) (W1.setCell ⟨g, k * 5 + 1, none⟩ (.slice A m c)) := by
  subst hm
  have hpk := h.lst.par _ (List.getElem_mem hk)
  have hown : W1.ownsRow w.heap.size 79 5 (.slice (some ⟨g, 0, none⟩) ts.length cap) ts.length (ts.flatMap encC) := h.own.kept hg (owns_two hpk h.own (by decide))
  obtain ⟨a, b1, c1, d1, e1⟩ := h.wd _ (List.getElem_mem hk)
  refine h.put hl hk hown (h.mv.grown hg (fun B e => (World.ownsRow.lt hpk B e).1)) (j := 1) (by omega) ⟨⟨ts[k].c.kind, ns, ts[k].c.choices, ts[k].c.low, ts[k].c.high⟩, A, c, ts[k].ac, ts[k].cc⟩ (.slice A ns.length c) rfl ⟨a, hns, c1, hw, e1⟩ ho ?_ (fun i hi hne => ⟨?_, ?_⟩) hn
  · have q := World.ownsRow.kept (h.lst.cho _ (List.getElem_mem hk)) hg (.inr (fun e => h.lst.one _ (List.getElem_mem hk) e.symm))
    exact q
  · refine World.ownsRow.kept (h.lst.par _ (List.getElem_mem hi)) hg (.inr ?_)
    rcases two_at h.lst.two hi hk hne with q | q
    · exact q.1
    · exact fun e => q.1 e.symm
  · refine World.ownsRow.kept (h.lst.cho _ (List.getElem_mem hi)) hg (.inr ?_)
    rcases two_at h.lst.two hi hk hne with q | q
    · exact q.2.2.2
    · exact fun e => q.2.2.1 e.symm
theorem KSt.chos (h : KSt b len w ts g cap W) (hl : ts.length ≤ 1000) {k : Nat} (hk : k < ts.length) {ns : List Int} (hns : ns.length ≤ 1000) (hw : ∀ y ∈ ns, Wide y) {W1 : World} {A : Option Addr} {m c : Nat} (hm : ns.length = m) (ho : W1.ownsRow w.heap.size 3 1 (.slice A m c) m (nums ns)) (hg : W.grownBy W1 (bcK ts[k])) {n : Nat} (hn : ts.length = n) :
    GivesClks b len w (.returned (.slice (some ⟨g, 0, none⟩) n cap)) (W1.setCell ⟨g, k * 5 + 2, none⟩ (.slice A m c)) := by
  subst hm
  have hpk := h.lst.cho _ (List.getElem_mem hk)
  have hown : W1.ownsRow w.heap.size 79 5 (.slice (some ⟨g, 0, none⟩) ts.length cap) ts.length (ts.flatMap encC) := h.own.kept hg (owns_two hpk h.own (by decide))
  obtain ⟨a, b1, c1, d1, e1⟩ := h.wd _ (List.getElem_mem hk)
  refine h.put hl hk hown (h.mv.grown hg (fun B e => (World.ownsRow.lt hpk B e).1)) (j := 2) (by omega) ⟨⟨ts[k].c.kind, ts[k].c.parents, ns, ts[k].c.low, ts[k].c.high⟩, ts[k].ap, ts[k].cp, A, c⟩ (.slice A ns.length c) rfl ⟨a, b1, hns, d1, hw⟩ ?_ ho (fun i hi hne => ⟨?_, ?_⟩) hn
  · have q := World.ownsRow.kept (h.lst.par _ (List.getElem_mem hk)) hg (.inr (h.lst.one _ (List.getElem_mem hk)))
    exact q
  · refine World.ownsRow.kept (h.lst.par _ (List.getElem_mem hi)) hg (.inr ?_)
    rcases two_at h.lst.two hi hk hne with q | q
    · exact q.2.2.1
    · exact fun e => q.2.2.2 e.symm
  · refine World.ownsRow.kept (h.lst.cho _ (List.getElem_mem hi)) hg (.inr ?_)
    rcases two_at h.lst.two hi hk hne with q | q
    · exact q.2.1
    · exact fun e => q.2.1 e.symm
end
end Go.Proofs.YtenehghpmnajpaaGreatDoor
