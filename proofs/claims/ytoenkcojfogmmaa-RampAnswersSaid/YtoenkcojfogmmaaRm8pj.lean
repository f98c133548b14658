/- Lemmas and contracts for the proof of RampAnswers (several texts in one, printed by wip/tools/pack.py): RxH Rx36 Rx37 RxA ZStA. -/
import Derived.Test.YtoenkcojfogmmaaRm8pi
import Derived.Test.YtoenkcojfogmmaaRm8pf
import Derived.Test.YtoenkcojfogmmaaRm8pg
import Derived.Deep.RegionLaw
set_option maxRecDepth 100000
set_option maxHeartbeats 16000000
set_option linter.unusedVariables false
set_option linter.unusedSimpArgs false
namespace Go.Proofs.Ytoenkcojfogmmaa
open Go.RowKit
open Classical
structure RlA (W : World) (a1 a2 : Option Addr) (c1 c2 : Nat) (r : Rls) : Prop where
  on : SlOf 1 RB W a1 r.on
  lv : SlOf 1 RI W a2 r.level
  k1 : r.on.length ≤ c1
  k2 : r.level.length ≤ c2
  f1 : Fit r.on.length
  f2 : Fit r.level.length
theorem RlA.gr {W W' : World} {a1 a2 : Option Addr} {c1 c2 : Nat} {r : Rls} (h : RlA W a1 a2 c1 c2 r) (hg : Gr W W') : RlA W' a1 a2 c1 c2 r := ⟨h.on.giB hg, h.lv.giI hg, h.k1, h.k2, h.f1, h.f2⟩
theorem RlA.box {W : World} {a1 a2 : Option Addr} {c1 c2 B o : Nat} {r : Rls} {v : Value} {s : Option Addr} {n k : Nat} (h : RlA W a1 a2 c1 c2 r) (c : W.cell? ⟨B, o, none⟩ = some (.slice s n k)) : RlA (W.setCell ⟨B, o, none⟩ v) a1 a2 c1 c2 r :=
  ⟨h.on.keepB c (fun _ e => by cases e), h.lv.keepI c (fun _ _ e => by cases e), h.k1, h.k2, h.f1, h.f2⟩
def RV (w : World) (v : Value) (r : Rls) : Prop := ∃ b1 b2 d1 d2, v = .agg #[.slice b1 r.on.length d1, .slice b2 r.level.length d2] ∧ RlA w b1 b2 d1 d2 r
theorem RV.gr {w w' : World} {v : Value} {r : Rls} (h : RV w v r) (hg : Gr w w') : RV w' v r := by
  obtain ⟨b1, b2, d1, d2, e, q⟩ := h
  exact ⟨b1, b2, d1, d2, e, q.gr hg⟩
theorem RlA.box2 {w : World} {a1 a2 : Option Addr} {c1 c2 N : Nat} {r : Rls} {u1 u2 : Value} (h : RlA w a1 a2 c1 c2 r) (hr : Row w N 31 [.slice none 0 0, .slice none 0 0]) : RlA ((w.setCell ⟨N, 0, none⟩ u1).setCell ⟨N, 1, none⟩ u2) a1 a2 c1 c2 r :=
  (h.box (hr.cell 0 (by simp))).box ((hr.set 0 u1).cell 1 (by simp))
theorem RV.box2 {w : World} {v : Value} {r : Rls} {N : Nat} {u1 u2 : Value} (h : RV w v r) (hr : Row w N 31 [.slice none 0 0, .slice none 0 0]) : RV ((w.setCell ⟨N, 0, none⟩ u1).setCell ⟨N, 1, none⟩ u2) v r := by
  obtain ⟨b1, b2, d1, d2, e, q⟩ := h
  exact ⟨b1, b2, d1, d2, e, q.box2 hr⟩
def GivesRl (W : World) (r : Rls) (x : Int) (e : Ending) (w' : World) : Prop := ∃ v, e = .returned (.tuple #[v, .int .i64 x]) ∧ RV w' v r ∧ Gr W w'
theorem GivesR.rl {W w' : World} {r : Rls} {x : Int} {e : Ending} (h : GivesR W r x e w') (f1 : Fit r.on.length) (f2 : Fit r.level.length) : GivesRl W r x e w' := by
  obtain ⟨a1, a2, c1, c2, e, k1, k2, h1, h2, hg⟩ := h
  exact ⟨_, e, ⟨a1, a2, c1, c2, rfl, h1, h2, k1, k2, f1, f2⟩, hg⟩
theorem GivesRo.rl {W w' : World} {r : Rls} {x : Int} {e : Ending} (h : GivesRo W r x e w') (f1 : Fit r.on.length) (f2 : Fit r.level.length) (hw : ∀ k (hk : k < r.level.length), Wide r.level[k]) : GivesRl W r x e w' := by
  obtain ⟨a1, a2, c1, c2, e, k1, k2, h1, h2, hg⟩ := h
  exact ⟨_, e, ⟨a1, a2, c1, c2, rfl, h1.slB, h2.slI hw, k1, k2, f1, f2⟩, hg⟩
def BoxV (w : World) (N : Nat) (r : Rls) : Prop := ∃ b1 b2 d1 d2, Row w N 31 [.slice b1 r.on.length d1, .slice b2 r.level.length d2] ∧ RlA w b1 b2 d1 d2 r
theorem BoxV.gr {w w' : World} {N : Nat} {r : Rls} (h : BoxV w N r) (hg : Gr w w') : BoxV w' N r := by
  obtain ⟨b1, b2, d1, d2, e, q⟩ := h
  exact ⟨b1, b2, d1, d2, e.gr hg, q.gr hg⟩
theorem pairR {W : World} {Y : Nat} {ty : TypeId} {u1 u2 u3 u4 : Value} (r : Row W Y ty [u1, u2, u3, u4]) : W.cell? ⟨Y, 0, none⟩ = some u1 ∧ W.cell? ⟨Y, 1, none⟩ = some u2 ∧ W.cell? ⟨Y, 2, none⟩ = some u3 ∧ W.cell? ⟨Y, 3, none⟩ = some u4 ∧ Has W Y := ⟨r.cell 0 (by simp), r.cell 1 (by simp), r.cell 2 (by simp), r.cell 3 (by simp), r.has⟩
theorem wri_cells {w : World} {aw : Option Addr} {ps : List Wri} (h : SlOf 3 RWri w aw ps) {j : Nat} (hj : j < ps.length) : ∃ g o, aw = some ⟨g, o, none⟩ ∧ w.cell? ⟨g, o + j * 3, none⟩ = some (.int .i64 ps[j].kind) ∧ w.cell? ⟨g, o + j * 3 + 1, none⟩ = some (.int .i64 ps[j].unit) ∧ w.cell? ⟨g, o + j * 3 + 2, none⟩ = some (.int .i64 ps[j].value) ∧ WWide ps[j] := by
  obtain ⟨g, o, e, ⟨c0, w0⟩, ⟨c1, w1⟩, ⟨c2, w2⟩⟩ := h j hj
  exact ⟨g, o, e, c0, c1, c2, w0, w1, w2⟩
def rx36F (wr : World) (ax a1 a2 : Option Addr) (nl cx n1 c1 n2 c2 Y gw0 ow np cw j : Nat) (pk pu pv x : Int) (R : Rls) (t40 t41 t248 t249 t250 t251 t252 t253 t254 t255 t256 t257 t258 : Value) (d : Array Bool) (w : World) : Prop :=
  Gr wr w ∧ (d.getD 0 false = true → t249 = .slice ax nl cx) ∧
  (d.getD 1 false = true → t250 = .pointer (some ⟨Y, 0, none⟩)) ∧
  (d.getD 2 false = true → t251 = .agg #[.slice a1 n1 c1, .slice a2 n2 c2]) ∧
  (d.getD 3 false = true → t252 = .slice (some ⟨gw0, ow, none⟩) np cw) ∧
  (d.getD 4 false = true → t253 = .int .i64 (j : Int)) ∧
  (d.getD 5 false = true → t254 = .pointer (some ⟨gw0, ow + j * 3, none⟩)) ∧
  (d.getD 6 false = true → t255 = .agg #[.int .i64 pk, .int .i64 pu, .int .i64 pv]) ∧
  (d.getD 7 false = true → (∃ v, t256 = .tuple #[v, .int .i64 x] ∧ RV w v R)) ∧
  (d.getD 8 false = true → (∃ v, t248 = .tuple #[v, .int .i64 x] ∧ RV w v R)) ∧
  (d.getD 9 false = true → RV w t257 R) ∧
  (d.getD 10 false = true → t258 = .int .i64 x) ∧
  (d.getD 11 false = true → (∃ N : Nat, t40 = .pointer (some ⟨N, 0, none⟩) ∧ wr.heap.size ≤ N ∧ (d.getD 12 false = true ∨ Row w N 31 [.slice none 0 0, .slice none 0 0]))) ∧
  (d.getD 12 false = true → (d.getD 11 false = true ∧ ∃ N : Nat, t40 = .pointer (some ⟨N, 0, none⟩) ∧ BoxV w N R)) ∧
  (d.getD 13 false = true → t41 = .int .i64 x)
def rx36A (ax : Option Addr) (nl cx Y gw0 ow np cw j : Nat) (t40 t41 t248 t249 t250 t251 t252 t253 t254 t255 t256 t257 t258 s0 s1 s2 s3 s4 s5 s6 s7 s8 s9 s10 s11 s12 s13 s14 s15 s16 s17 s18 s19 s21 s23 s24 s25 s26 s27 s28 s29 s30 s31 s32 s33 s35 s36 s37 s38 s42 s43 s44 s45 s46 s47 s48 s49 s50 s51 s52 s53 s54 s55 s56 s57 s58 s59 s60 s61 s62 s63 s64 s65 s66 s67 s68 s69 s70 s71 s72 s73 s74 s75 s76 s77 s78 s79 s80 s81 s82 s83 s84 s85 s86 s87 s88 s89 s90 s91 s92 s93 s94 s95 s96 s97 s98 s99 s100 s101 s102 s103 s104 s105 s106 s107 s108 s109 s110 s111 s112 s113 s114 s115 s116 s117 s118 s119 s120 s121 s122 s123 s124 s125 s126 s127 s128 s129 s130 s131 s132 s133 s134 s135 s136 s137 s138 s139 s140 s141 s142 s143 s144 s145 s146 s147 s148 s149 s150 s151 s152 s153 s154 s155 s156 s157 s158 s159 s160 s161 s162 s163 s164 s165 s166 s167 s168 s169 s170 s171 s172 s173 s174 s175 s176 s177 s178 s179 s180 s181 s182 s183 s184 s185 s186 s187 s188 s189 s190 s191 s192 s193 s194 s195 s196 s197 s198 s199 s200 s201 s202 s203 s204 s205 s206 s207 s208 s209 s210 s211 s212 s213 s214 s215 s216 s217 s218 s219 s220 s221 s222 s223 s224 s225 s226 s227 s228 s229 s230 s231 s232 s233 s234 s235 s236 s237 s238 s239 s240 s241 s242 s243 s244 s245 s246 s247 s259 s260 s261 s262 s263 s264 s265 s266 s267 s268 s269 s270 s271 s272 s273 s274 s275 s276 s277 s278 s279 s280 s281 s282 s283 : Value) : Act := { tmps := #[s0, s1, s2, s3, s4, s5, s6, s7, s8, s9, s10, s11, s12, s13, s14, s15, s16, s17, s18, s19, .slice ax nl cx, s21, .pointer (some ⟨Y, 0, none⟩), s23, s24, s25, s26, s27, s28, s29, s30, s31, s32, s33, .slice (some ⟨gw0, ow, none⟩) np cw, s35, s36, s37, s38, .int .i64 (j : Int), t40, t41, s42, s43, s44, s45, s46, s47, s48, s49, s50, s51, s52, s53, s54, s55, s56, s57, s58, s59, s60, s61, s62, s63, s64, s65, s66, s67, s68, s69, s70, s71, s72, s73, s74, s75, s76, s77, s78, s79, s80, s81, s82, s83, s84, s85, s86, s87, s88, s89, s90, s91, s92, s93, s94, s95, s96, s97, s98, s99, s100, s101, s102, s103, s104, s105, s106, s107, s108, s109, s110, s111, s112, s113, s114, s115, s116, s117, s118, s119, s120, s121, s122, s123, s124, s125, s126, s127, s128, s129, s130, s131, s132, s133, s134, s135, s136, s137, s138, s139, s140, s141, s142, s143, s144, s145, s146, s147, s148, s149, s150, s151, s152, s153, s154, s155, s156, s157, s158, s159, s160, s161, s162, s163, s164, s165, s166, s167, s168, s169, s170, s171, s172, s173, s174, s175, s176, s177, s178, s179, s180, s181, s182, s183, s184, s185, s186, s187, s188, s189, s190, s191, s192, s193, s194, s195, s196, s197, s198, s199, s200, s201, s202, s203, s204, s205, s206, s207, s208, s209, s210, s211, s212, s213, s214, s215, s216, s217, s218, s219, s220, s221, s222, s223, s224, s225, s226, s227, s228, s229, s230, s231, s232, s233, s234, s235, s236, s237, s238, s239, s240, s241, s242, s243, s244, s245, s246, s247, t248, t249, t250, t251, t252, t253, t254, t255, t256, t257, t258, s259, s260, s261, s262, s263, s264, s265, s266, s267, s268, s269, s270, s271, s272, s273, s274, s275, s276, s277, s278, s279, s280, s281, s282, s283], defers := [] }
theorem rx36 {Q : Exit → Act → World → Prop} {wr : World} {ax a1 a2 : Option Addr} {nl cx n1 c1 n2 c2 Y gw0 ow np cw j : Nat} {pk pu pv x : Int} {R : Rls}  {s0 s1 s2 s3 s4 s5 s6 s7 s8 s9 s10 s11 s12 s13 s14 s15 s16 s17 s18 s19 s21 s23 s24 s25 s26 s27 s28 s29 s30 s31 s32 s33 s35 s36 s37 s38 s40 s41 s42 s43 s44 s45 s46 s47 s48 s49 s50 s51 s52 s53 s54 s55 s56 s57 s58 s59 s60 s61 s62 s63 s64 s65 s66 s67 s68 s69 s70 s71 s72 s73 s74 s75 s76 s77 s78 s79 s80 s81 s82 s83 s84 s85 s86 s87 s88 s89 s90 s91 s92 s93 s94 s95 s96 s97 s98 s99 s100 s101 s102 s103 s104 s105 s106 s107 s108 s109 s110 s111 s112 s113 s114 s115 s116 s117 s118 s119 s120 s121 s122 s123 s124 s125 s126 s127 s128 s129 s130 s131 s132 s133 s134 s135 s136 s137 s138 s139 s140 s141 s142 s143 s144 s145 s146 s147 s148 s149 s150 s151 s152 s153 s154 s155 s156 s157 s158 s159 s160 s161 s162 s163 s164 s165 s166 s167 s168 s169 s170 s171 s172 s173 s174 s175 s176 s177 s178 s179 s180 s181 s182 s183 s184 s185 s186 s187 s188 s189 s190 s191 s192 s193 s194 s195 s196 s197 s198 s199 s200 s201 s202 s203 s204 s205 s206 s207 s208 s209 s210 s211 s212 s213 s214 s215 s216 s217 s218 s219 s220 s221 s222 s223 s224 s225 s226 s227 s228 s229 s230 s231 s232 s233 s234 s235 s236 s237 s238 s239 s240 s241 s242 s243 s244 s245 s246 s247 s248 s249 s250 s251 s252 s253 s254 s255 s256 s257 s258 s259 s260 s261 s262 s263 s264 s265 s266 s267 s268 s269 s270 s271 s272 s273 s274 s275 s276 s277 s278 s279 s280 s281 s282 s283 : Value} {u3 u4 : Value} (hC : ∀ W, Gr wr W → Calls Try.prog 20 #[.slice ax nl cx, .agg #[.slice a1 n1 c1, .slice a2 n2 c2], .agg #[.int .i64 pk, .int .i64 pu, .int .i64 pv]] W (GivesRl W R x)) (hY : Row wr Y 56 [.slice a1 n1 c1, .slice a2 n2 c2, u3, u4]) (hj : j < np)
    (hc0 : wr.cell? ⟨gw0, ow + j * 3, none⟩ = some (.int .i64 pk)) (hc1 : wr.cell? ⟨gw0, ow + j * 3 + 1, none⟩ = some (.int .i64 pu)) (hc2 : wr.cell? ⟨gw0, ow + j * 3 + 2, none⟩ = some (.int .i64 pv))
    (h' : ∀ t40 t41 t248 t249 t250 t251 t252 t253 t254 t255 t256 t257 t258 N wx, Gr wr wx → t40 = .pointer (some ⟨N, 0, none⟩) → t41 = .int .i64 x → BoxV wx N R → Q .normal (rx36A ax nl cx Y gw0 ow np cw j t40 t41 t248 t249 t250 t251 t252 t253 t254 t255 t256 t257 t258 s0 s1 s2 s3 s4 s5 s6 s7 s8 s9 s10 s11 s12 s13 s14 s15 s16 s17 s18 s19 s21 s23 s24 s25 s26 s27 s28 s29 s30 s31 s32 s33 s35 s36 s37 s38 s42 s43 s44 s45 s46 s47 s48 s49 s50 s51 s52 s53 s54 s55 s56 s57 s58 s59 s60 s61 s62 s63 s64 s65 s66 s67 s68 s69 s70 s71 s72 s73 s74 s75 s76 s77 s78 s79 s80 s81 s82 s83 s84 s85 s86 s87 s88 s89 s90 s91 s92 s93 s94 s95 s96 s97 s98 s99 s100 s101 s102 s103 s104 s105 s106 s107 s108 s109 s110 s111 s112 s113 s114 s115 s116 s117 s118 s119 s120 s121 s122 s123 s124 s125 s126 s127 s128 s129 s130 s131 s132 s133 s134 s135 s136 s137 s138 s139 s140 s141 s142 s143 s144 s145 s146 s147 s148 s149 s150 s151 s152 s153 s154 s155 s156 s157 s158 s159 s160 s161 s162 s163 s164 s165 s166 s167 s168 s169 s170 s171 s172 s173 s174 s175 s176 s177 s178 s179 s180 s181 s182 s183 s184 s185 s186 s187 s188 s189 s190 s191 s192 s193 s194 s195 s196 s197 s198 s199 s200 s201 s202 s203 s204 s205 s206 s207 s208 s209 s210 s211 s212 s213 s214 s215 s216 s217 s218 s219 s220 s221 s222 s223 s224 s225 s226 s227 s228 s229 s230 s231 s232 s233 s234 s235 s236 s237 s238 s239 s240 s241 s242 s243 s244 s245 s246 s247 s259 s260 s261 s262 s263 s264 s265 s266 s267 s268 s269 s270 s271 s272 s273 s274 s275 s276 s277 s278 s279 s280 s281 s282 s283) wx) :
    (Code.region 36 (regIn 36 Try.f7) true).wp Try.prog Q { tmps := #[s0, s1, s2, s3, s4, s5, s6, s7, s8, s9, s10, s11, s12, s13, s14, s15, s16, s17, s18, s19, .slice ax nl cx, s21, .pointer (some ⟨Y, 0, none⟩), s23, s24, s25, s26, s27, s28, s29, s30, s31, s32, s33, .slice (some ⟨gw0, ow, none⟩) np cw, s35, s36, s37, s38, .int .i64 (j : Int), s40, s41, s42, s43, s44, s45, s46, s47, s48, s49, s50, s51, s52, s53, s54, s55, s56, s57, s58, s59, s60, s61, s62, s63, s64, s65, s66, s67, s68, s69, s70, s71, s72, s73, s74, s75, s76, s77, s78, s79, s80, s81, s82, s83, s84, s85, s86, s87, s88, s89, s90, s91, s92, s93, s94, s95, s96, s97, s98, s99, s100, s101, s102, s103, s104, s105, s106, s107, s108, s109, s110, s111, s112, s113, s114, s115, s116, s117, s118, s119, s120, s121, s122, s123, s124, s125, s126, s127, s128, s129, s130, s131, s132, s133, s134, s135, s136, s137, s138, s139, s140, s141, s142, s143, s144, s145, s146, s147, s148, s149, s150, s151, s152, s153, s154, s155, s156, s157, s158, s159, s160, s161, s162, s163, s164, s165, s166, s167, s168, s169, s170, s171, s172, s173, s174, s175, s176, s177, s178, s179, s180, s181, s182, s183, s184, s185, s186, s187, s188, s189, s190, s191, s192, s193, s194, s195, s196, s197, s198, s199, s200, s201, s202, s203, s204, s205, s206, s207, s208, s209, s210, s211, s212, s213, s214, s215, s216, s217, s218, s219, s220, s221, s222, s223, s224, s225, s226, s227, s228, s229, s230, s231, s232, s233, s234, s235, s236, s237, s238, s239, s240, s241, s242, s243, s244, s245, s246, s247, s248, s249, s250, s251, s252, s253, s254, s255, s256, s257, s258, s259, s260, s261, s262, s263, s264, s265, s266, s267, s268, s269, s270, s271, s272, s273, s274, s275, s276, s277, s278, s279, s280, s281, s282, s283], defers := [] } wr := by
  have HC := PLift.up hC
  have YB := PLift.up hY
  have HJ := PLift.up hj
  have C0 := PLift.up hc0
  have C1 := PLift.up hc1
  have C2 := PLift.up hc2
  clear hC hY hj hc0 hc1 hc2
  simp only [regIn, Try.f7, regOps, Option.bind_some, Option.getD_some, Nat.beq, cond_true, cond_false]
  refine wp_region_steps (fun done a w => ∃ t40 t41 t248 t249 t250 t251 t252 t253 t254 t255 t256 t257 t258, a = rx36A ax nl cx Y gw0 ow np cw j t40 t41 t248 t249 t250 t251 t252 t253 t254 t255 t256 t257 t258 s0 s1 s2 s3 s4 s5 s6 s7 s8 s9 s10 s11 s12 s13 s14 s15 s16 s17 s18 s19 s21 s23 s24 s25 s26 s27 s28 s29 s30 s31 s32 s33 s35 s36 s37 s38 s42 s43 s44 s45 s46 s47 s48 s49 s50 s51 s52 s53 s54 s55 s56 s57 s58 s59 s60 s61 s62 s63 s64 s65 s66 s67 s68 s69 s70 s71 s72 s73 s74 s75 s76 s77 s78 s79 s80 s81 s82 s83 s84 s85 s86 s87 s88 s89 s90 s91 s92 s93 s94 s95 s96 s97 s98 s99 s100 s101 s102 s103 s104 s105 s106 s107 s108 s109 s110 s111 s112 s113 s114 s115 s116 s117 s118 s119 s120 s121 s122 s123 s124 s125 s126 s127 s128 s129 s130 s131 s132 s133 s134 s135 s136 s137 s138 s139 s140 s141 s142 s143 s144 s145 s146 s147 s148 s149 s150 s151 s152 s153 s154 s155 s156 s157 s158 s159 s160 s161 s162 s163 s164 s165 s166 s167 s168 s169 s170 s171 s172 s173 s174 s175 s176 s177 s178 s179 s180 s181 s182 s183 s184 s185 s186 s187 s188 s189 s190 s191 s192 s193 s194 s195 s196 s197 s198 s199 s200 s201 s202 s203 s204 s205 s206 s207 s208 s209 s210 s211 s212 s213 s214 s215 s216 s217 s218 s219 s220 s221 s222 s223 s224 s225 s226 s227 s228 s229 s230 s231 s232 s233 s234 s235 s236 s237 s238 s239 s240 s241 s242 s243 s244 s245 s246 s247 s259 s260 s261 s262 s263 s264 s265 s266 s267 s268 s269 s270 s271 s272 s273 s274 s275 s276 s277 s278 s279 s280 s281 s282 s283 ∧ rx36F wr ax a1 a2 nl cx n1 c1 n2 c2 Y gw0 ow np cw j pk pu pv x R t40 t41 t248 t249 t250 t251 t252 t253 t254 t255 t256 t257 t258 done w) (by kernel_rfl) (by kernel_rfl) ?_ ⟨?_, ?_, ?_, ?_, ?_, ?_, ?_, ?_, ?_, ?_, ?_, ?_, ?_, ?_, trivial⟩ ?_
  · exact ⟨s40, s41, s248, s249, s250, s251, s252, s253, s254, s255, s256, s257, s258, rfl, (Gr.refl _).drew, fun q => absurd q (by decide), fun q => absurd q (by decide), fun q => absurd q (by decide), fun q => absurd q (by decide), fun q => absurd q (by decide), fun q => absurd q (by decide), fun q => absurd q (by decide), fun q => absurd q (by decide), fun q => absurd q (by decide), fun q => absurd q (by decide), fun q => absurd q (by decide), fun q => absurd q (by decide), fun q => absurd q (by decide), fun q => absurd q (by decide)⟩
  · rintro done a w hsz hnot hdep ⟨t40, t41, t248, t249, t250, t251, t252, t253, t254, t255, t256, t257, t258, rfl, gw, f0, f1, f2, f3, f4, f5, f6, f7, f8, f9, f10, f11, f12, f13⟩ K hK
    have hn : ¬ done.getD 0 false = true := by rw [getD_both hnot]; decide
    have HK := PLift.up hK
    clear hK 
    simp only [rx36A]
    go_simp
    have gg : Gr w w := Gr.refl _
    refine HK.down _ _ ⟨_, _, _, _, _, _, _, _, _, _, _, _, _, rfl, gw, fun _ => rfl, kp f1, kp f2, kp f3, kp f4, kp f5, kp f6, kp f7, kp f8, kp f9, kp f10, fun q => (let ⟨N, e, h0, h⟩ := f11 (done_old q (by decide)); ⟨N, e, h0, h.imp done_stay id⟩), fun q => (let ⟨h0, h⟩ := f12 (done_old q (by decide)); ⟨done_stay h0, h⟩), kp f13⟩
  · rintro done a w hsz hnot hdep ⟨t40, t41, t248, t249, t250, t251, t252, t253, t254, t255, t256, t257, t258, rfl, gw, f0, f1, f2, f3, f4, f5, f6, f7, f8, f9, f10, f11, f12, f13⟩ K hK
    have hn : ¬ done.getD 1 false = true := by rw [getD_both hnot]; decide
    have HK := PLift.up hK
    clear hK 
    simp only [rx36A]
    go_simp
    have gg : Gr w w := Gr.refl _
    refine HK.down _ _ ⟨_, _, _, _, _, _, _, _, _, _, _, _, _, rfl, gw, kp f0, fun _ => rfl, kp f2, kp f3, kp f4, kp f5, kp f6, kp f7, kp f8, kp f9, kp f10, fun q => (let ⟨N, e, h0, h⟩ := f11 (done_old q (by decide)); ⟨N, e, h0, h.imp done_stay id⟩), fun q => (let ⟨h0, h⟩ := f12 (done_old q (by decide)); ⟨done_stay h0, h⟩), kp f13⟩
  · rintro done a w hsz hnot hdep ⟨t40, t41, t248, t249, t250, t251, t252, t253, t254, t255, t256, t257, t258, rfl, gw, f0, f1, f2, f3, f4, f5, f6, f7, f8, f9, f10, f11, f12, f13⟩ K hK
    have hn : ¬ done.getD 2 false = true := by rw [getD_both hnot]; decide
    have d1 := hdep 1 (by kernel_rfl)
    obtain rfl := f1 d1
    obtain ⟨c0, c1x, _, _, ch⟩ := pairR (YB.down.gr gw)
    have GW := PLift.up gw
    clear gw
    have HK := PLift.up hK
    clear hK d1
    simp only [rx36A]
    go_simp
    have gg : Gr w w := Gr.refl _
    refine HK.down _ _ ⟨_, _, _, _, _, _, _, _, _, _, _, _, _, rfl, GW.down, kp f0, kp f1, fun _ => rfl, kp f3, kp f4, kp f5, kp f6, kp f7, kp f8, kp f9, kp f10, fun q => (let ⟨N, e, h0, h⟩ := f11 (done_old q (by decide)); ⟨N, e, h0, h.imp done_stay id⟩), fun q => (let ⟨h0, h⟩ := f12 (done_old q (by decide)); ⟨done_stay h0, h⟩), kp f13⟩
  · rintro done a w hsz hnot hdep ⟨t40, t41, t248, t249, t250, t251, t252, t253, t254, t255, t256, t257, t258, rfl, gw, f0, f1, f2, f3, f4, f5, f6, f7, f8, f9, f10, f11, f12, f13⟩ K hK
    have hn : ¬ done.getD 3 false = true := by rw [getD_both hnot]; decide
    have HK := PLift.up hK
    clear hK 
    simp only [rx36A]
    go_simp
    have gg : Gr w w := Gr.refl _
    refine HK.down _ _ ⟨_, _, _, _, _, _, _, _, _, _, _, _, _, rfl, gw, kp f0, kp f1, kp f2, fun _ => rfl, kp f4, kp f5, kp f6, kp f7, kp f8, kp f9, kp f10, fun q => (let ⟨N, e, h0, h⟩ := f11 (done_old q (by decide)); ⟨N, e, h0, h.imp done_stay id⟩), fun q => (let ⟨h0, h⟩ := f12 (done_old q (by decide)); ⟨done_stay h0, h⟩), kp f13⟩
  · rintro done a w hsz hnot hdep ⟨t40, t41, t248, t249, t250, t251, t252, t253, t254, t255, t256, t257, t258, rfl, gw, f0, f1, f2, f3, f4, f5, f6, f7, f8, f9, f10, f11, f12, f13⟩ K hK
    have hn : ¬ done.getD 4 false = true := by rw [getD_both hnot]; decide
    have HK := PLift.up hK
    clear hK 
    simp only [rx36A]
    go_simp
    have gg : Gr w w := Gr.refl _
    refine HK.down _ _ ⟨_, _, _, _, _, _, _, _, _, _, _, _, _, rfl, gw, kp f0, kp f1, kp f2, kp f3, fun _ => rfl, kp f5, kp f6, kp f7, kp f8, kp f9, kp f10, fun q => (let ⟨N, e, h0, h⟩ := f11 (done_old q (by decide)); ⟨N, e, h0, h.imp done_stay id⟩), fun q => (let ⟨h0, h⟩ := f12 (done_old q (by decide)); ⟨done_stay h0, h⟩), kp f13⟩
  · rintro done a w hsz hnot hdep ⟨t40, t41, t248, t249, t250, t251, t252, t253, t254, t255, t256, t257, t258, rfl, gw, f0, f1, f2, f3, f4, f5, f6, f7, f8, f9, f10, f11, f12, f13⟩ K hK
    have hn : ¬ done.getD 5 false = true := by rw [getD_both hnot]; decide
    have d3 := hdep 3 (by kernel_rfl)
    have d4 := hdep 4 (by kernel_rfl)
    obtain rfl := f3 d3
    obtain rfl := f4 d4
    have k1 : (j : Int) < np := by have := HJ.down; omega
    have k2 : j < np := HJ.down
    have HK := PLift.up hK
    clear hK d3 d4
    simp only [rx36A]
    go_simp
    have gg : Gr w w := Gr.refl _
    refine HK.down _ _ ⟨_, _, _, _, _, _, _, _, _, _, _, _, _, rfl, gw, kp f0, kp f1, kp f2, kp f3, kp f4, fun _ => rfl, kp f6, kp f7, kp f8, kp f9, kp f10, fun q => (let ⟨N, e, h0, h⟩ := f11 (done_old q (by decide)); ⟨N, e, h0, h.imp done_stay id⟩), fun q => (let ⟨h0, h⟩ := f12 (done_old q (by decide)); ⟨done_stay h0, h⟩), kp f13⟩
  · rintro done a w hsz hnot hdep ⟨t40, t41, t248, t249, t250, t251, t252, t253, t254, t255, t256, t257, t258, rfl, gw, f0, f1, f2, f3, f4, f5, f6, f7, f8, f9, f10, f11, f12, f13⟩ K hK
    have hn : ¬ done.getD 6 false = true := by rw [getD_both hnot]; decide
    have d5 := hdep 5 (by kernel_rfl)
    obtain rfl := f5 d5
    have c0 := cell_gr gw C0.down
    have c1x := cell_gr gw C1.down
    have c2x := cell_gr gw C2.down
    have ch := has_of_cell c0
    have GW := PLift.up gw
    clear gw
    have HK := PLift.up hK
    clear hK d5
    simp only [rx36A]
    go_simp
    have gg : Gr w w := Gr.refl _
    refine HK.down _ _ ⟨_, _, _, _, _, _, _, _, _, _, _, _, _, rfl, GW.down, kp f0, kp f1, kp f2, kp f3, kp f4, kp f5, fun _ => rfl, kp f7, kp f8, kp f9, kp f10, fun q => (let ⟨N, e, h0, h⟩ := f11 (done_old q (by decide)); ⟨N, e, h0, h.imp done_stay id⟩), fun q => (let ⟨h0, h⟩ := f12 (done_old q (by decide)); ⟨done_stay h0, h⟩), kp f13⟩
  · rintro done a w hsz hnot hdep ⟨t40, t41, t248, t249, t250, t251, t252, t253, t254, t255, t256, t257, t258, rfl, gw, f0, f1, f2, f3, f4, f5, f6, f7, f8, f9, f10, f11, f12, f13⟩ K hK
    have hn : ¬ done.getD 7 false = true := by rw [getD_both hnot]; decide
    have d0 := hdep 0 (by kernel_rfl)
    have d2 := hdep 2 (by kernel_rfl)
    have d6 := hdep 6 (by kernel_rfl)
    obtain rfl := f0 d0
    obtain rfl := f2 d2
    obtain rfl := f6 d6
    have GW := PLift.up gw
    clear gw
    have HK := PLift.up hK
    clear hK d0 d2 d6
    simp only [rx36A]
    go_simp
    refine (HC.down w GW.down).mono ?_
    rintro e w2 ⟨v, rfl, hv, gg⟩
    (try go_simp)
    refine HK.down _ _ ⟨_, _, _, _, _, _, _, _, _, _, _, _, _, rfl, GW.down.trans gg, kp f0, kp f1, kp f2, kp f3, kp f4, kp f5, kp f6, ?_, fun q => (let ⟨v, e, h⟩ := f8 (done_old q (by decide)); ⟨v, e, h.gr gg⟩), fun q => (f9 (done_old q (by decide))).gr gg, kp f10, fun q => (let ⟨N, e, h0, h⟩ := f11 (done_old q (by decide)); ⟨N, e, h0, h.imp done_stay (fun r => r.gr gg)⟩), fun q => (let ⟨h0, N, e, h⟩ := f12 (done_old q (by decide)); ⟨done_stay h0, N, e, h.gr gg⟩), kp f13⟩
    exact fun _ => ⟨v, rfl, hv⟩
  · rintro done a w hsz hnot hdep ⟨t40, t41, t248, t249, t250, t251, t252, t253, t254, t255, t256, t257, t258, rfl, gw, f0, f1, f2, f3, f4, f5, f6, f7, f8, f9, f10, f11, f12, f13⟩ K hK
    have hn : ¬ done.getD 8 false = true := by rw [getD_both hnot]; decide
    have d7 := hdep 7 (by kernel_rfl)
    obtain ⟨v, rfl, hv⟩ := f7 d7
    have V := PLift.up hv
    clear hv d7
    have HK := PLift.up hK
    clear hK 
    simp only [rx36A]
    go_simp
    have gg : Gr w w := Gr.refl _
    refine HK.down _ _ ⟨_, _, _, _, _, _, _, _, _, _, _, _, _, rfl, gw, kp f0, kp f1, kp f2, kp f3, kp f4, kp f5, kp f6, fun _ => ⟨v, rfl, V.down⟩, ?_, kp f9, kp f10, fun q => (let ⟨N, e, h0, h⟩ := f11 (done_old q (by decide)); ⟨N, e, h0, h.imp done_stay id⟩), fun q => (let ⟨h0, h⟩ := f12 (done_old q (by decide)); ⟨done_stay h0, h⟩), kp f13⟩
    exact fun _ => ⟨v, rfl, V.down⟩
  · rintro done a w hsz hnot hdep ⟨t40, t41, t248, t249, t250, t251, t252, t253, t254, t255, t256, t257, t258, rfl, gw, f0, f1, f2, f3, f4, f5, f6, f7, f8, f9, f10, f11, f12, f13⟩ K hK
    have hn : ¬ done.getD 9 false = true := by rw [getD_both hnot]; decide
    have d8 := hdep 8 (by kernel_rfl)
    obtain ⟨v, rfl, hv⟩ := f8 d8
    have V := PLift.up hv
    clear hv d8
    have HK := PLift.up hK
    clear hK 
    simp only [rx36A]
    go_simp
    have gg : Gr w w := Gr.refl _
    refine HK.down _ _ ⟨_, _, _, _, _, _, _, _, _, _, _, _, _, rfl, gw, kp f0, kp f1, kp f2, kp f3, kp f4, kp f5, kp f6, kp f7, fun _ => ⟨v, rfl, V.down⟩, ?_, kp f10, fun q => (let ⟨N, e, h0, h⟩ := f11 (done_old q (by decide)); ⟨N, e, h0, h.imp done_stay id⟩), fun q => (let ⟨h0, h⟩ := f12 (done_old q (by decide)); ⟨done_stay h0, h⟩), kp f13⟩
    exact fun _ => V.down
  · rintro done a w hsz hnot hdep ⟨t40, t41, t248, t249, t250, t251, t252, t253, t254, t255, t256, t257, t258, rfl, gw, f0, f1, f2, f3, f4, f5, f6, f7, f8, f9, f10, f11, f12, f13⟩ K hK
    have hn : ¬ done.getD 10 false = true := by rw [getD_both hnot]; decide
    have d8 := hdep 8 (by kernel_rfl)
    obtain ⟨v, rfl, hv⟩ := f8 d8
    have V := PLift.up hv
    clear hv d8
    have HK := PLift.up hK
    clear hK 
    simp only [rx36A]
    go_simp
    have gg : Gr w w := Gr.refl _
    refine HK.down _ _ ⟨_, _, _, _, _, _, _, _, _, _, _, _, _, rfl, gw, kp f0, kp f1, kp f2, kp f3, kp f4, kp f5, kp f6, kp f7, fun _ => ⟨v, rfl, V.down⟩, kp f9, fun _ => rfl, fun q => (let ⟨N, e, h0, h⟩ := f11 (done_old q (by decide)); ⟨N, e, h0, h.imp done_stay id⟩), fun q => (let ⟨h0, h⟩ := f12 (done_old q (by decide)); ⟨done_stay h0, h⟩), kp f13⟩
  · rintro done a w hsz hnot hdep ⟨t40, t41, t248, t249, t250, t251, t252, t253, t254, t255, t256, t257, t258, rfl, gw, f0, f1, f2, f3, f4, f5, f6, f7, f8, f9, f10, f11, f12, f13⟩ K hK
    have hn : ¬ done.getD 11 false = true := by rw [getD_both hnot]; decide
    have GW := PLift.up gw
    clear gw
    have HK := PLift.up hK
    clear hK 
    simp only [rx36A]
    go_simp
    have gg : Gr w (w.alloc (.cells #[.slice none 0 0, .slice none 0 0] 31)) := (Gr.refl _).alloc _
    refine HK.down _ _ ⟨_, _, _, _, _, _, _, _, _, _, _, _, _, rfl, GW.down.trans gg, kp f0, kp f1, kp f2, kp f3, kp f4, kp f5, kp f6, fun q => (let ⟨v, e, h⟩ := f7 (done_old q (by decide)); ⟨v, e, h.gr gg⟩), fun q => (let ⟨v, e, h⟩ := f8 (done_old q (by decide)); ⟨v, e, h.gr gg⟩), fun q => (f9 (done_old q (by decide))).gr gg, kp f10, ?_, fun q => absurd (f12 (done_old q (by decide))).1 hn, kp f13⟩
    exact fun _ => ⟨w.heap.size, rfl, GW.down.size, .inr (Row.new w _ _)⟩
  · rintro done a w hsz hnot hdep ⟨t40, t41, t248, t249, t250, t251, t252, t253, t254, t255, t256, t257, t258, rfl, gw, f0, f1, f2, f3, f4, f5, f6, f7, f8, f9, f10, f11, f12, f13⟩ K hK
    have hn : ¬ done.getD 12 false = true := by rw [getD_both hnot]; decide
    have d11 := hdep 11 (by kernel_rfl)
    have d9 := hdep 9 (by kernel_rfl)
    obtain ⟨N, rfl, h0, hr⟩ := f11 d11
    have R0 := PLift.up (hr.resolve_left hn)
    obtain ⟨b1, b2, e1, e2, rfl, hv⟩ := f9 d9
    have V := PLift.up hv
    have H0 := PLift.up h0
    have D11 := PLift.up d11
    have GW := PLift.up gw
    obtain ⟨z0, z1, z2, z3, z4⟩ := boxZ R0.down
    clear gw hr hv h0 d11 d9
    have HK := PLift.up hK
    clear hK 
    simp only [rx36A]
    go_simp
    refine HK.down _ _ ⟨_, _, _, _, _, _, _, _, _, _, _, _, _, rfl, (GW.down.setc H0.down).setc H0.down, kp f0, kp f1, kp f2, kp f3, kp f4, kp f5, kp f6, fun q => (let ⟨v, e, h⟩ := f7 (done_old q (by decide)); ⟨v, e, h.box2 R0.down⟩), fun q => (let ⟨v, e, h⟩ := f8 (done_old q (by decide)); ⟨v, e, h.box2 R0.down⟩), fun _ => ⟨b1, b2, e1, e2, rfl, V.down.box2 R0.down⟩, kp f10, fun _ => ⟨N, rfl, H0.down, .inl (getD_set_same (by rw [hsz]; decide))⟩, ?_, kp f13⟩
    exact fun _ => ⟨done_stay D11.down, N, rfl, b1, b2, e1, e2, (R0.down.set 0 _).set 1 _, V.down.box2 R0.down⟩
  · rintro done a w hsz hnot hdep ⟨t40, t41, t248, t249, t250, t251, t252, t253, t254, t255, t256, t257, t258, rfl, gw, f0, f1, f2, f3, f4, f5, f6, f7, f8, f9, f10, f11, f12, f13⟩ K hK
    have hn : ¬ done.getD 13 false = true := by rw [getD_both hnot]; decide
    have d10 := hdep 10 (by kernel_rfl)
    obtain rfl := f10 d10
    have HK := PLift.up hK
    clear hK d10
    simp only [rx36A]
    go_simp
    have gg : Gr w w := Gr.refl _
    refine HK.down _ _ ⟨_, _, _, _, _, _, _, _, _, _, _, _, _, rfl, gw, kp f0, kp f1, kp f2, kp f3, kp f4, kp f5, kp f6, kp f7, kp f8, kp f9, kp f10, fun q => (let ⟨N, e, h0, h⟩ := f11 (done_old q (by decide)); ⟨N, e, h0, h.imp done_stay id⟩), fun q => (let ⟨h0, h⟩ := f12 (done_old q (by decide)); ⟨done_stay h0, h⟩), fun _ => rfl⟩
  · rintro done a w hall ⟨t40, t41, t248, t249, t250, t251, t252, t253, t254, t255, t256, t257, t258, rfl, gw, f0, f1, f2, f3, f4, f5, f6, f7, f8, f9, f10, f11, f12, f13⟩
    obtain ⟨_, N, e, hb⟩ := f12 (hall 12 (by decide))
    exact h' _ _ _ _ _ _ _ _ _ _ _ _ _ N w gw e (f13 (hall 13 (by decide))) hb
def rx37F (wr : World) (ax a1 a2 : Option Addr) (nl cx n1 c1 n2 c2 Y gw0 ow np cw j : Nat) (pk pu pv x : Int) (R : Rls) (t42 t43 t259 t260 t261 t262 t263 t264 t265 t266 t267 t268 t269 : Value) (d : Array Bool) (w : World) : Prop :=
  Gr wr w ∧ (d.getD 0 false = true → t260 = .slice ax nl cx) ∧
  (d.getD 1 false = true → t261 = .pointer (some ⟨Y, 0, none⟩)) ∧
  (d.getD 2 false = true → t262 = .agg #[.slice a1 n1 c1, .slice a2 n2 c2]) ∧
  (d.getD 3 false = true → t263 = .slice (some ⟨gw0, ow, none⟩) np cw) ∧
  (d.getD 4 false = true → t264 = .int .i64 (j : Int)) ∧
  (d.getD 5 false = true → t265 = .pointer (some ⟨gw0, ow + j * 3, none⟩)) ∧
  (d.getD 6 false = true → t266 = .agg #[.int .i64 pk, .int .i64 pu, .int .i64 pv]) ∧
  (d.getD 7 false = true → (∃ v, t267 = .tuple #[v, .int .i64 x] ∧ RV w v R)) ∧
  (d.getD 8 false = true → (∃ v, t259 = .tuple #[v, .int .i64 x] ∧ RV w v R)) ∧
  (d.getD 9 false = true → RV w t268 R) ∧
  (d.getD 10 false = true → t269 = .int .i64 x) ∧
  (d.getD 11 false = true → (∃ N : Nat, t42 = .pointer (some ⟨N, 0, none⟩) ∧ wr.heap.size ≤ N ∧ (d.getD 12 false = true ∨ Row w N 31 [.slice none 0 0, .slice none 0 0]))) ∧
  (d.getD 12 false = true → (d.getD 11 false = true ∧ ∃ N : Nat, t42 = .pointer (some ⟨N, 0, none⟩) ∧ BoxV w N R)) ∧
  (d.getD 13 false = true → t43 = .int .i64 x)
def rx37A (ax : Option Addr) (nl cx Y gw0 ow np cw j : Nat) (t42 t43 t259 t260 t261 t262 t263 t264 t265 t266 t267 t268 t269 s0 s1 s2 s3 s4 s5 s6 s7 s8 s9 s10 s11 s12 s13 s14 s15 s16 s17 s18 s19 s21 s23 s24 s25 s26 s27 s28 s29 s30 s31 s32 s33 s35 s36 s37 s38 s40 s41 s44 s45 s46 s47 s48 s49 s50 s51 s52 s53 s54 s55 s56 s57 s58 s59 s60 s61 s62 s63 s64 s65 s66 s67 s68 s69 s70 s71 s72 s73 s74 s75 s76 s77 s78 s79 s80 s81 s82 s83 s84 s85 s86 s87 s88 s89 s90 s91 s92 s93 s94 s95 s96 s97 s98 s99 s100 s101 s102 s103 s104 s105 s106 s107 s108 s109 s110 s111 s112 s113 s114 s115 s116 s117 s118 s119 s120 s121 s122 s123 s124 s125 s126 s127 s128 s129 s130 s131 s132 s133 s134 s135 s136 s137 s138 s139 s140 s141 s142 s143 s144 s145 s146 s147 s148 s149 s150 s151 s152 s153 s154 s155 s156 s157 s158 s159 s160 s161 s162 s163 s164 s165 s166 s167 s168 s169 s170 s171 s172 s173 s174 s175 s176 s177 s178 s179 s180 s181 s182 s183 s184 s185 s186 s187 s188 s189 s190 s191 s192 s193 s194 s195 s196 s197 s198 s199 s200 s201 s202 s203 s204 s205 s206 s207 s208 s209 s210 s211 s212 s213 s214 s215 s216 s217 s218 s219 s220 s221 s222 s223 s224 s225 s226 s227 s228 s229 s230 s231 s232 s233 s234 s235 s236 s237 s238 s239 s240 s241 s242 s243 s244 s245 s246 s247 s248 s249 s250 s251 s252 s253 s254 s255 s256 s257 s258 s270 s271 s272 s273 s274 s275 s276 s277 s278 s279 s280 s281 s282 s283 : Value) : Act := { tmps := #[s0, s1, s2, s3, s4, s5, s6, s7, s8, s9, s10, s11, s12, s13, s14, s15, s16, s17, s18, s19, .slice ax nl cx, s21, .pointer (some ⟨Y, 0, none⟩), s23, s24, s25, s26, s27, s28, s29, s30, s31, s32, s33, .slice (some ⟨gw0, ow, none⟩) np cw, s35, s36, s37, s38, .int .i64 (j : Int), s40, s41, t42, t43, s44, s45, s46, s47, s48, s49, s50, s51, s52, s53, s54, s55, s56, s57, s58, s59, s60, s61, s62, s63, s64, s65, s66, s67, s68, s69, s70, s71, s72, s73, s74, s75, s76, s77, s78, s79, s80, s81, s82, s83, s84, s85, s86, s87, s88, s89, s90, s91, s92, s93, s94, s95, s96, s97, s98, s99, s100, s101, s102, s103, s104, s105, s106, s107, s108, s109, s110, s111, s112, s113, s114, s115, s116, s117, s118, s119, s120, s121, s122, s123, s124, s125, s126, s127, s128, s129, s130, s131, s132, s133, s134, s135, s136, s137, s138, s139, s140, s141, s142, s143, s144, s145, s146, s147, s148, s149, s150, s151, s152, s153, s154, s155, s156, s157, s158, s159, s160, s161, s162, s163, s164, s165, s166, s167, s168, s169, s170, s171, s172, s173, s174, s175, s176, s177, s178, s179, s180, s181, s182, s183, s184, s185, s186, s187, s188, s189, s190, s191, s192, s193, s194, s195, s196, s197, s198, s199, s200, s201, s202, s203, s204, s205, s206, s207, s208, s209, s210, s211, s212, s213, s214, s215, s216, s217, s218, s219, s220, s221, s222, s223, s224, s225, s226, s227, s228, s229, s230, s231, s232, s233, s234, s235, s236, s237, s238, s239, s240, s241, s242, s243, s244, s245, s246, s247, s248, s249, s250, s251, s252, s253, s254, s255, s256, s257, s258, t259, t260, t261, t262, t263, t264, t265, t266, t267, t268, t269, s270, s271, s272, s273, s274, s275, s276, s277, s278, s279, s280, s281, s282, s283], defers := [] }
theorem rx37 {Q : Exit → Act → World → Prop} {wr : World} {ax a1 a2 : Option Addr} {nl cx n1 c1 n2 c2 Y gw0 ow np cw j : Nat} {pk pu pv x : Int} {R : Rls}  {s0 s1 s2 s3 s4 s5 s6 s7 s8 s9 s10 s11 s12 s13 s14 s15 s16 s17 s18 s19 s21 s23 s24 s25 s26 s27 s28 s29 s30 s31 s32 s33 s35 s36 s37 s38 s40 s41 s42 s43 s44 s45 s46 s47 s48 s49 s50 s51 s52 s53 s54 s55 s56 s57 s58 s59 s60 s61 s62 s63 s64 s65 s66 s67 s68 s69 s70 s71 s72 s73 s74 s75 s76 s77 s78 s79 s80 s81 s82 s83 s84 s85 s86 s87 s88 s89 s90 s91 s92 s93 s94 s95 s96 s97 s98 s99 s100 s101 s102 s103 s104 s105 s106 s107 s108 s109 s110 s111 s112 s113 s114 s115 s116 s117 s118 s119 s120 s121 s122 s123 s124 s125 s126 s127 s128 s129 s130 s131 s132 s133 s134 s135 s136 s137 s138 s139 s140 s141 s142 s143 s144 s145 s146 s147 s148 s149 s150 s151 s152 s153 s154 s155 s156 s157 s158 s159 s160 s161 s162 s163 s164 s165 s166 s167 s168 s169 s170 s171 s172 s173 s174 s175 s176 s177 s178 s179 s180 s181 s182 s183 s184 s185 s186 s187 s188 s189 s190 s191 s192 s193 s194 s195 s196 s197 s198 s199 s200 s201 s202 s203 s204 s205 s206 s207 s208 s209 s210 s211 s212 s213 s214 s215 s216 s217 s218 s219 s220 s221 s222 s223 s224 s225 s226 s227 s228 s229 s230 s231 s232 s233 s234 s235 s236 s237 s238 s239 s240 s241 s242 s243 s244 s245 s246 s247 s248 s249 s250 s251 s252 s253 s254 s255 s256 s257 s258 s259 s260 s261 s262 s263 s264 s265 s266 s267 s268 s269 s270 s271 s272 s273 s274 s275 s276 s277 s278 s279 s280 s281 s282 s283 : Value} {u3 u4 : Value} (hC : ∀ W, Gr wr W → Calls Try.prog 31 #[.slice ax nl cx, .agg #[.slice a1 n1 c1, .slice a2 n2 c2], .agg #[.int .i64 pk, .int .i64 pu, .int .i64 pv]] W (GivesRl W R x)) (hY : Row wr Y 56 [.slice a1 n1 c1, .slice a2 n2 c2, u3, u4]) (hj : j < np)
    (hc0 : wr.cell? ⟨gw0, ow + j * 3, none⟩ = some (.int .i64 pk)) (hc1 : wr.cell? ⟨gw0, ow + j * 3 + 1, none⟩ = some (.int .i64 pu)) (hc2 : wr.cell? ⟨gw0, ow + j * 3 + 2, none⟩ = some (.int .i64 pv))
    (h' : ∀ t42 t43 t259 t260 t261 t262 t263 t264 t265 t266 t267 t268 t269 N wx, Gr wr wx → t42 = .pointer (some ⟨N, 0, none⟩) → t43 = .int .i64 x → BoxV wx N R → Q .normal (rx37A ax nl cx Y gw0 ow np cw j t42 t43 t259 t260 t261 t262 t263 t264 t265 t266 t267 t268 t269 s0 s1 s2 s3 s4 s5 s6 s7 s8 s9 s10 s11 s12 s13 s14 s15 s16 s17 s18 s19 s21 s23 s24 s25 s26 s27 s28 s29 s30 s31 s32 s33 s35 s36 s37 s38 s40 s41 s44 s45 s46 s47 s48 s49 s50 s51 s52 s53 s54 s55 s56 s57 s58 s59 s60 s61 s62 s63 s64 s65 s66 s67 s68 s69 s70 s71 s72 s73 s74 s75 s76 s77 s78 s79 s80 s81 s82 s83 s84 s85 s86 s87 s88 s89 s90 s91 s92 s93 s94 s95 s96 s97 s98 s99 s100 s101 s102 s103 s104 s105 s106 s107 s108 s109 s110 s111 s112 s113 s114 s115 s116 s117 s118 s119 s120 s121 s122 s123 s124 s125 s126 s127 s128 s129 s130 s131 s132 s133 s134 s135 s136 s137 s138 s139 s140 s141 s142 s143 s144 s145 s146 s147 s148 s149 s150 s151 s152 s153 s154 s155 s156 s157 s158 s159 s160 s161 s162 s163 s164 s165 s166 s167 s168 s169 s170 s171 s172 s173 s174 s175 s176 s177 s178 s179 s180 s181 s182 s183 s184 s185 s186 s187 s188 s189 s190 s191 s192 s193 s194 s195 s196 s197 s198 s199 s200 s201 s202 s203 s204 s205 s206 s207 s208 s209 s210 s211 s212 s213 s214 s215 s216 s217 s218 s219 s220 s221 s222 s223 s224 s225 s226 s227 s228 s229 s230 s231 s232 s233 s234 s235 s236 s237 s238 s239 s240 s241 s242 s243 s244 s245 s246 s247 s248 s249 s250 s251 s252 s253 s254 s255 s256 s257 s258 s270 s271 s272 s273 s274 s275 s276 s277 s278 s279 s280 s281 s282 s283) wx) :
    (Code.region 37 (regIn 37 Try.f7) true).wp Try.prog Q { tmps := #[s0, s1, s2, s3, s4, s5, s6, s7, s8, s9, s10, s11, s12, s13, s14, s15, s16, s17, s18, s19, .slice ax nl cx, s21, .pointer (some ⟨Y, 0, none⟩), s23, s24, s25, s26, s27, s28, s29, s30, s31, s32, s33, .slice (some ⟨gw0, ow, none⟩) np cw, s35, s36, s37, s38, .int .i64 (j : Int), s40, s41, s42, s43, s44, s45, s46, s47, s48, s49, s50, s51, s52, s53, s54, s55, s56, s57, s58, s59, s60, s61, s62, s63, s64, s65, s66, s67, s68, s69, s70, s71, s72, s73, s74, s75, s76, s77, s78, s79, s80, s81, s82, s83, s84, s85, s86, s87, s88, s89, s90, s91, s92, s93, s94, s95, s96, s97, s98, s99, s100, s101, s102, s103, s104, s105, s106, s107, s108, s109, s110, s111, s112, s113, s114, s115, s116, s117, s118, s119, s120, s121, s122, s123, s124, s125, s126, s127, s128, s129, s130, s131, s132, s133, s134, s135, s136, s137, s138, s139, s140, s141, s142, s143, s144, s145, s146, s147, s148, s149, s150, s151, s152, s153, s154, s155, s156, s157, s158, s159, s160, s161, s162, s163, s164, s165, s166, s167, s168, s169, s170, s171, s172, s173, s174, s175, s176, s177, s178, s179, s180, s181, s182, s183, s184, s185, s186, s187, s188, s189, s190, s191, s192, s193, s194, s195, s196, s197, s198, s199, s200, s201, s202, s203, s204, s205, s206, s207, s208, s209, s210, s211, s212, s213, s214, s215, s216, s217, s218, s219, s220, s221, s222, s223, s224, s225, s226, s227, s228, s229, s230, s231, s232, s233, s234, s235, s236, s237, s238, s239, s240, s241, s242, s243, s244, s245, s246, s247, s248, s249, s250, s251, s252, s253, s254, s255, s256, s257, s258, s259, s260, s261, s262, s263, s264, s265, s266, s267, s268, s269, s270, s271, s272, s273, s274, s275, s276, s277, s278, s279, s280, s281, s282, s283], defers := [] } wr := by
  have HC := PLift.up hC
  have YB := PLift.up hY
  have HJ := PLift.up hj
  have C0 := PLift.up hc0
  have C1 := PLift.up hc1
  have C2 := PLift.up hc2
  clear hC hY hj hc0 hc1 hc2
  simp only [regIn, Try.f7, regOps, Option.bind_some, Option.getD_some, Nat.beq, cond_true, cond_false]
  refine wp_region_steps (fun done a w => ∃ t42 t43 t259 t260 t261 t262 t263 t264 t265 t266 t267 t268 t269, a = rx37A ax nl cx Y gw0 ow np cw j t42 t43 t259 t260 t261 t262 t263 t264 t265 t266 t267 t268 t269 s0 s1 s2 s3 s4 s5 s6 s7 s8 s9 s10 s11 s12 s13 s14 s15 s16 s17 s18 s19 s21 s23 s24 s25 s26 s27 s28 s29 s30 s31 s32 s33 s35 s36 s37 s38 s40 s41 s44 s45 s46 s47 s48 s49 s50 s51 s52 s53 s54 s55 s56 s57 s58 s59 s60 s61 s62 s63 s64 s65 s66 s67 s68 s69 s70 s71 s72 s73 s74 s75 s76 s77 s78 s79 s80 s81 s82 s83 s84 s85 s86 s87 s88 s89 s90 s91 s92 s93 s94 s95 s96 s97 s98 s99 s100 s101 s102 s103 s104 s105 s106 s107 s108 s109 s110 s111 s112 s113 s114 s115 s116 s117 s118 s119 s120 s121 s122 s123 s124 s125 s126 s127 s128 s129 s130 s131 s132 s133 s134 s135 s136 s137 s138 s139 s140 s141 s142 s143 s144 s145 s146 s147 s148 s149 s150 s151 s152 s153 s154 s155 s156 s157 s158 s159 s160 s161 s162 s163 s164 s165 s166 s167 s168 s169 s170 s171 s172 s173 s174 s175 s176 s177 s178 s179 s180 s181 s182 s183 s184 s185 s186 s187 s188 s189 s190 s191 s192 s193 s194 s195 s196 s197 s198 s199 s200 s201 s202 s203 s204 s205 s206 s207 s208 s209 s210 s211 s212 s213 s214 s215 s216 s217 s218 s219 s220 s221 s222 s223 s224 s225 s226 s227 s228 s229 s230 s231 s232 s233 s234 s235 s236 s237 s238 s239 s240 s241 s242 s243 s244 s245 s246 s247 s248 s249 s250 s251 s252 s253 s254 s255 s256 s257 s258 s270 s271 s272 s273 s274 s275 s276 s277 s278 s279 s280 s281 s282 s283 ∧ rx37F wr ax a1 a2 nl cx n1 c1 n2 c2 Y gw0 ow np cw j pk pu pv x R t42 t43 t259 t260 t261 t262 t263 t264 t265 t266 t267 t268 t269 done w) (by kernel_rfl) (by kernel_rfl) ?_ ⟨?_, ?_, ?_, ?_, ?_, ?_, ?_, ?_, ?_, ?_, ?_, ?_, ?_, ?_, trivial⟩ ?_
  · exact ⟨s42, s43, s259, s260, s261, s262, s263, s264, s265, s266, s267, s268, s269, rfl, (Gr.refl _).drew, fun q => absurd q (by decide), fun q => absurd q (by decide), fun q => absurd q (by decide), fun q => absurd q (by decide), fun q => absurd q (by decide), fun q => absurd q (by decide), fun q => absurd q (by decide), fun q => absurd q (by decide), fun q => absurd q (by decide), fun q => absurd q (by decide), fun q => absurd q (by decide), fun q => absurd q (by decide), fun q => absurd q (by decide), fun q => absurd q (by decide)⟩
  · rintro done a w hsz hnot hdep ⟨t42, t43, t259, t260, t261, t262, t263, t264, t265, t266, t267, t268, t269, rfl, gw, f0, f1, f2, f3, f4, f5, f6, f7, f8, f9, f10, f11, f12, f13⟩ K hK
    have hn : ¬ done.getD 0 false = true := by rw [getD_both hnot]; decide
    have HK := PLift.up hK
    clear hK 
    simp only [rx37A]
    go_simp
    have gg : Gr w w := Gr.refl _
    refine HK.down _ _ ⟨_, _, _, _, _, _, _, _, _, _, _, _, _, rfl, gw, fun _ => rfl, kp f1, kp f2, kp f3, kp f4, kp f5, kp f6, kp f7, kp f8, kp f9, kp f10, fun q => (let ⟨N, e, h0, h⟩ := f11 (done_old q (by decide)); ⟨N, e, h0, h.imp done_stay id⟩), fun q => (let ⟨h0, h⟩ := f12 (done_old q (by decide)); ⟨done_stay h0, h⟩), kp f13⟩
  · rintro done a w hsz hnot hdep ⟨t42, t43, t259, t260, t261, t262, t263, t264, t265, t266, t267, t268, t269, rfl, gw, f0, f1, f2, f3, f4, f5, f6, f7, f8, f9, f10, f11, f12, f13⟩ K hK
    have hn : ¬ done.getD 1 false = true := by rw [getD_both hnot]; decide
    have HK := PLift.up hK
    clear hK 
    simp only [rx37A]
    go_simp
    have gg : Gr w w := Gr.refl _
    refine HK.down _ _ ⟨_, _, _, _, _, _, _, _, _, _, _, _, _, rfl, gw, kp f0, fun _ => rfl, kp f2, kp f3, kp f4, kp f5, kp f6, kp f7, kp f8, kp f9, kp f10, fun q => (let ⟨N, e, h0, h⟩ := f11 (done_old q (by decide)); ⟨N, e, h0, h.imp done_stay id⟩), fun q => (let ⟨h0, h⟩ := f12 (done_old q (by decide)); ⟨done_stay h0, h⟩), kp f13⟩
  · rintro done a w hsz hnot hdep ⟨t42, t43, t259, t260, t261, t262, t263, t264, t265, t266, t267, t268, t269, rfl, gw, f0, f1, f2, f3, f4, f5, f6, f7, f8, f9, f10, f11, f12, f13⟩ K hK
    have hn : ¬ done.getD 2 false = true := by rw [getD_both hnot]; decide
    have d1 := hdep 1 (by kernel_rfl)
    obtain rfl := f1 d1
    obtain ⟨c0, c1x, _, _, ch⟩ := pairR (YB.down.gr gw)
    have GW := PLift.up gw
    clear gw
    have HK := PLift.up hK
    clear hK d1
    simp only [rx37A]
    go_simp
    have gg : Gr w w := Gr.refl _
    refine HK.down _ _ ⟨_, _, _, _, _, _, _, _, _, _, _, _, _, rfl, GW.down, kp f0, kp f1, fun _ => rfl, kp f3, kp f4, kp f5, kp f6, kp f7, kp f8, kp f9, kp f10, fun q => (let ⟨N, e, h0, h⟩ := f11 (done_old q (by decide)); ⟨N, e, h0, h.imp done_stay id⟩), fun q => (let ⟨h0, h⟩ := f12 (done_old q (by decide)); ⟨done_stay h0, h⟩), kp f13⟩
  · rintro done a w hsz hnot hdep ⟨t42, t43, t259, t260, t261, t262, t263, t264, t265, t266, t267, t268, t269, rfl, gw, f0, f1, f2, f3, f4, f5, f6, f7, f8, f9, f10, f11, f12, f13⟩ K hK
    have hn : ¬ done.getD 3 false = true := by rw [getD_both hnot]; decide
    have HK := PLift.up hK
    clear hK 
    simp only [rx37A]
    go_simp
    have gg : Gr w w := Gr.refl _
    refine HK.down _ _ ⟨_, _, _, _, _, _, _, _, _, _, _, _, _, rfl, gw, kp f0, kp f1, kp f2, fun _ => rfl, kp f4, kp f5, kp f6, kp f7, kp f8, kp f9, kp f10, fun q => (let ⟨N, e, h0, h⟩ := f11 (done_old q (by decide)); ⟨N, e, h0, h.imp done_stay id⟩), fun q => (let ⟨h0, h⟩ := f12 (done_old q (by decide)); ⟨done_stay h0, h⟩), kp f13⟩
  · rintro done a w hsz hnot hdep ⟨t42, t43, t259, t260, t261, t262, t263, t264, t265, t266, t267, t268, t269, rfl, gw, f0, f1, f2, f3, f4, f5, f6, f7, f8, f9, f10, f11, f12, f13⟩ K hK
    have hn : ¬ done.getD 4 false = true := by rw [getD_both hnot]; decide
    have HK := PLift.up hK
    clear hK 
    simp only [rx37A]
    go_simp
    have gg : Gr w w := Gr.refl _
    refine HK.down _ _ ⟨_, _, _, _, _, _, _, _, _, _, _, _, _, rfl, gw, kp f0, kp f1, kp f2, kp f3, fun _ => rfl, kp f5, kp f6, kp f7, kp f8, kp f9, kp f10, fun q => (let ⟨N, e, h0, h⟩ := f11 (done_old q (by decide)); ⟨N, e, h0, h.imp done_stay id⟩), fun q => (let ⟨h0, h⟩ := f12 (done_old q (by decide)); ⟨done_stay h0, h⟩), kp f13⟩
  · rintro done a w hsz hnot hdep ⟨t42, t43, t259, t260, t261, t262, t263, t264, t265, t266, t267, t268, t269, rfl, gw, f0, f1, f2, f3, f4, f5, f6, f7, f8, f9, f10, f11, f12, f13⟩ K hK
    have hn : ¬ done.getD 5 false = true := by rw [getD_both hnot]; decide
    have d3 := hdep 3 (by kernel_rfl)
    have d4 := hdep 4 (by kernel_rfl)
    obtain rfl := f3 d3
    obtain rfl := f4 d4
    have k1 : (j : Int) < np := by have := HJ.down; omega
    have k2 : j < np := HJ.down
    have HK := PLift.up hK
    clear hK d3 d4
    simp only [rx37A]
    go_simp
    have gg : Gr w w := Gr.refl _
    refine HK.down _ _ ⟨_, _, _, _, _, _, _, _, _, _, _, _, _, rfl, gw, kp f0, kp f1, kp f2, kp f3, kp f4, fun _ => rfl, kp f6, kp f7, kp f8, kp f9, kp f10, fun q => (let ⟨N, e, h0, h⟩ := f11 (done_old q (by decide)); ⟨N, e, h0, h.imp done_stay id⟩), fun q => (let ⟨h0, h⟩ := f12 (done_old q (by decide)); ⟨done_stay h0, h⟩), kp f13⟩
  · rintro done a w hsz hnot hdep ⟨t42, t43, t259, t260, t261, t262, t263, t264, t265, t266, t267, t268, t269, rfl, gw, f0, f1, f2, f3, f4, f5, f6, f7, f8, f9, f10, f11, f12, f13⟩ K hK
    have hn : ¬ done.getD 6 false = true := by rw [getD_both hnot]; decide
    have d5 := hdep 5 (by kernel_rfl)
    obtain rfl := f5 d5
    have c0 := cell_gr gw C0.down
    have c1x := cell_gr gw C1.down
    have c2x := cell_gr gw C2.down
    have ch := has_of_cell c0
    have GW := PLift.up gw
    clear gw
    have HK := PLift.up hK
    clear hK d5
    simp only [rx37A]
    go_simp
    have gg : Gr w w := Gr.refl _
    refine HK.down _ _ ⟨_, _, _, _, _, _, _, _, _, _, _, _, _, rfl, GW.down, kp f0, kp f1, kp f2, kp f3, kp f4, kp f5, fun _ => rfl, kp f7, kp f8, kp f9, kp f10, fun q => (let ⟨N, e, h0, h⟩ := f11 (done_old q (by decide)); ⟨N, e, h0, h.imp done_stay id⟩), fun q => (let ⟨h0, h⟩ := f12 (done_old q (by decide)); ⟨done_stay h0, h⟩), kp f13⟩
  · rintro done a w hsz hnot hdep ⟨t42, t43, t259, t260, t261, t262, t263, t264, t265, t266, t267, t268, t269, rfl, gw, f0, f1, f2, f3, f4, f5, f6, f7, f8, f9, f10, f11, f12, f13⟩ K hK
    have hn : ¬ done.getD 7 false = true := by rw [getD_both hnot]; decide
    have d0 := hdep 0 (by kernel_rfl)
    have d2 := hdep 2 (by kernel_rfl)
    have d6 := hdep 6 (by kernel_rfl)
    obtain rfl := f0 d0
    obtain rfl := f2 d2
    obtain rfl := f6 d6
    have GW := PLift.up gw
    clear gw
    have HK := PLift.up hK
    clear hK d0 d2 d6
    simp only [rx37A]
    go_simp
    refine (HC.down w GW.down).mono ?_
    rintro e w2 ⟨v, rfl, hv, gg⟩
    (try go_simp)
    refine HK.down _ _ ⟨_, _, _, _, _, _, _, _, _, _, _, _, _, rfl, GW.down.trans gg, kp f0, kp f1, kp f2, kp f3, kp f4, kp f5, kp f6, ?_, fun q => (let ⟨v, e, h⟩ := f8 (done_old q (by decide)); ⟨v, e, h.gr gg⟩), fun q => (f9 (done_old q (by decide))).gr gg, kp f10, fun q => (let ⟨N, e, h0, h⟩ := f11 (done_old q (by decide)); ⟨N, e, h0, h.imp done_stay (fun r => r.gr gg)⟩), fun q => (let ⟨h0, N, e, h⟩ := f12 (done_old q (by decide)); ⟨done_stay h0, N, e, h.gr gg⟩), kp f13⟩
    exact fun _ => ⟨v, rfl, hv⟩
  · rintro done a w hsz hnot hdep ⟨t42, t43, t259, t260, t261, t262, t263, t264, t265, t266, t267, t268, t269, rfl, gw, f0, f1, f2, f3, f4, f5, f6, f7, f8, f9, f10, f11, f12, f13⟩ K hK
    have hn : ¬ done.getD 8 false = true := by rw [getD_both hnot]; decide
    have d7 := hdep 7 (by kernel_rfl)
    obtain ⟨v, rfl, hv⟩ := f7 d7
    have V := PLift.up hv
    clear hv d7
    have HK := PLift.up hK
    clear hK 
    simp only [rx37A]
    go_simp
    have gg : Gr w w := Gr.refl _
    refine HK.down _ _ ⟨_, _, _, _, _, _, _, _, _, _, _, _, _, rfl, gw, kp f0, kp f1, kp f2, kp f3, kp f4, kp f5, kp f6, fun _ => ⟨v, rfl, V.down⟩, ?_, kp f9, kp f10, fun q => (let ⟨N, e, h0, h⟩ := f11 (done_old q (by decide)); ⟨N, e, h0, h.imp done_stay id⟩), fun q => (let ⟨h0, h⟩ := f12 (done_old q (by decide)); ⟨done_stay h0, h⟩), kp f13⟩
    exact fun _ => ⟨v, rfl, V.down⟩
  · rintro done a w hsz hnot hdep ⟨t42, t43, t259, t260, t261, t262, t263, t264, t265, t266, t267, t268, t269, rfl, gw, f0, f1, f2, f3, f4, f5, f6, f7, f8, f9, f10, f11, f12, f13⟩ K hK
    have hn : ¬ done.getD 9 false = true := by rw [getD_both hnot]; decide
    have d8 := hdep 8 (by kernel_rfl)
    obtain ⟨v, rfl, hv⟩ := f8 d8
    have V := PLift.up hv
    clear hv d8
    have HK := PLift.up hK
    clear hK 
    simp only [rx37A]
    go_simp
    have gg : Gr w w := Gr.refl _
    refine HK.down _ _ ⟨_, _, _, _, _, _, _, _, _, _, _, _, _, rfl, gw, kp f0, kp f1, kp f2, kp f3, kp f4, kp f5, kp f6, kp f7, fun _ => ⟨v, rfl, V.down⟩, ?_, kp f10, fun q => (let ⟨N, e, h0, h⟩ := f11 (done_old q (by decide)); ⟨N, e, h0, h.imp done_stay id⟩), fun q => (let ⟨h0, h⟩ := f12 (done_old q (by decide)); ⟨done_stay h0, h⟩), kp f13⟩
    exact fun _ => V.down
  · rintro done a w hsz hnot hdep ⟨t42, t43, t259, t260, t261, t262, t263, t264, t265, t266, t267, t268, t269, rfl, gw, f0, f1, f2, f3, f4, f5, f6, f7, f8, f9, f10, f11, f12, f13⟩ K hK
    have hn : ¬ done.getD 10 false = true := by rw [getD_both hnot]; decide
    have d8 := hdep 8 (by kernel_rfl)
    obtain ⟨v, rfl, hv⟩ := f8 d8
    have V := PLift.up hv
    clear hv d8
    have HK := PLift.up hK
    clear hK 
    simp only [rx37A]
    go_simp
    have gg : Gr w w := Gr.refl _
    refine HK.down _ _ ⟨_, _, _, _, _, _, _, _, _, _, _, _, _, rfl, gw, kp f0, kp f1, kp f2, kp f3, kp f4, kp f5, kp f6, kp f7, fun _ => ⟨v, rfl, V.down⟩, kp f9, fun _ => rfl, fun q => (let ⟨N, e, h0, h⟩ := f11 (done_old q (by decide)); ⟨N, e, h0, h.imp done_stay id⟩), fun q => (let ⟨h0, h⟩ := f12 (done_old q (by decide)); ⟨done_stay h0, h⟩), kp f13⟩
  · rintro done a w hsz hnot hdep ⟨t42, t43, t259, t260, t261, t262, t263, t264, t265, t266, t267, t268, t269, rfl, gw, f0, f1, f2, f3, f4, f5, f6, f7, f8, f9, f10, f11, f12, f13⟩ K hK
    have hn : ¬ done.getD 11 false = true := by rw [getD_both hnot]; decide
    have GW := PLift.up gw
    clear gw
    have HK := PLift.up hK
    clear hK 
    simp only [rx37A]
    go_simp
    have gg : Gr w (w.alloc (.cells #[.slice none 0 0, .slice none 0 0] 31)) := (Gr.refl _).alloc _
    refine HK.down _ _ ⟨_, _, _, _, _, _, _, _, _, _, _, _, _, rfl, GW.down.trans gg, kp f0, kp f1, kp f2, kp f3, kp f4, kp f5, kp f6, fun q => (let ⟨v, e, h⟩ := f7 (done_old q (by decide)); ⟨v, e, h.gr gg⟩), fun q => (let ⟨v, e, h⟩ := f8 (done_old q (by decide)); ⟨v, e, h.gr gg⟩), fun q => (f9 (done_old q (by decide))).gr gg, kp f10, ?_, fun q => absurd (f12 (done_old q (by decide))).1 hn, kp f13⟩
    exact fun _ => ⟨w.heap.size, rfl, GW.down.size, .inr (Row.new w _ _)⟩
  · rintro done a w hsz hnot hdep ⟨t42, t43, t259, t260, t261, t262, t263, t264, t265, t266, t267, t268, t269, rfl, gw, f0, f1, f2, f3, f4, f5, f6, f7, f8, f9, f10, f11, f12, f13⟩ K hK
    have hn : ¬ done.getD 12 false = true := by rw [getD_both hnot]; decide
    have d11 := hdep 11 (by kernel_rfl)
    have d9 := hdep 9 (by kernel_rfl)
    obtain ⟨N, rfl, h0, hr⟩ := f11 d11
    have R0 := PLift.up (hr.resolve_left hn)
    obtain ⟨b1, b2, e1, e2, rfl, hv⟩ := f9 d9
    have V := PLift.up hv
    have H0 := PLift.up h0
    have D11 := PLift.up d11
    have GW := PLift.up gw
    obtain ⟨z0, z1, z2, z3, z4⟩ := boxZ R0.down
    clear gw hr hv h0 d11 d9
    have HK := PLift.up hK
    clear hK 
    simp only [rx37A]
    go_simp
    refine HK.down _ _ ⟨_, _, _, _, _, _, _, _, _, _, _, _, _, rfl, (GW.down.setc H0.down).setc H0.down, kp f0, kp f1, kp f2, kp f3, kp f4, kp f5, kp f6, fun q => (let ⟨v, e, h⟩ := f7 (done_old q (by decide)); ⟨v, e, h.box2 R0.down⟩), fun q => (let ⟨v, e, h⟩ := f8 (done_old q (by decide)); ⟨v, e, h.box2 R0.down⟩), fun _ => ⟨b1, b2, e1, e2, rfl, V.down.box2 R0.down⟩, kp f10, fun _ => ⟨N, rfl, H0.down, .inl (getD_set_same (by rw [hsz]; decide))⟩, ?_, kp f13⟩
    exact fun _ => ⟨done_stay D11.down, N, rfl, b1, b2, e1, e2, (R0.down.set 0 _).set 1 _, V.down.box2 R0.down⟩
  · rintro done a w hsz hnot hdep ⟨t42, t43, t259, t260, t261, t262, t263, t264, t265, t266, t267, t268, t269, rfl, gw, f0, f1, f2, f3, f4, f5, f6, f7, f8, f9, f10, f11, f12, f13⟩ K hK
    have hn : ¬ done.getD 13 false = true := by rw [getD_both hnot]; decide
    have d10 := hdep 10 (by kernel_rfl)
    obtain rfl := f10 d10
    have HK := PLift.up hK
    clear hK d10
    simp only [rx37A]
    go_simp
    have gg : Gr w w := Gr.refl _
    refine HK.down _ _ ⟨_, _, _, _, _, _, _, _, _, _, _, _, _, rfl, gw, kp f0, kp f1, kp f2, kp f3, kp f4, kp f5, kp f6, kp f7, kp f8, kp f9, kp f10, fun q => (let ⟨N, e, h0, h⟩ := f11 (done_old q (by decide)); ⟨N, e, h0, h.imp done_stay id⟩), fun q => (let ⟨h0, h⟩ := f12 (done_old q (by decide)); ⟨done_stay h0, h⟩), fun _ => rfl⟩
  · rintro done a w hall ⟨t42, t43, t259, t260, t261, t262, t263, t264, t265, t266, t267, t268, t269, rfl, gw, f0, f1, f2, f3, f4, f5, f6, f7, f8, f9, f10, f11, f12, f13⟩
    obtain ⟨_, N, e, hb⟩ := f12 (hall 12 (by decide))
    exact h' _ _ _ _ _ _ _ _ _ _ _ _ _ N w gw e (f13 (hall 13 (by decide))) hb
theorem appP_lens (l : List Sup) (r : Rls) (p : Wri) : (appP l r p).on.length ≤ r.on.length ∧ (appP l r p).level.length ≤ r.level.length := by
  unfold appP
  split
  · rw [applyR_on_len, applyR_lv_len]; exact ⟨Nat.le_refl _, Nat.le_refl _⟩
  · simp [noRls]
theorem appP_wide {l : List Sup} {r : Rls} {p : Wri} (hp : WWide p) (k : Nat) (hk : k < (appP l r p).level.length) : Wide (appP l r p).level[k] := by
  by_cases h : appE l r p = 0
  · have e : appP l r p = applyR r p := by unfold appP; rw [if_pos h]
    have hr : RlsOk l r := by
      refine Classical.byContradiction fun q => ?_
      unfold appE at h
      by_cases hc : chk l = 0
      · rw [begR_bad hc q, if_neg (by decide)] at h
        exact absurd h (by decide)
      · rw [begR_chk hc, if_neg hc] at h
        exact hc h
    simp only [e] at hk ⊢
    exact applyR_wide hr hp.2.2 k hk
  · have e : appP l r p = noRls := by unfold appP; rw [if_neg h]
    rw [e] at hk
    simp [noRls] at hk
theorem rxA {Q : Exit → Act → World → Prop} {s0 s1 s2 s3 s4 s5 s6 s7 s8 s9 s10 s11 s12 s13 s14 s15 s16 s17 s18 s19 s21 s23 s24 s25 s26 s27 s28 s29 s30 s31 s32 s33 s35 s36 s37 s38 s40 s41 s42 s43 s44 s45 s46 s47 s48 s49 s50 s51 s52 s53 s54 s55 s56 s57 s58 s59 s60 s61 s62 s63 s64 s65 s66 s67 s68 s69 s70 s71 s72 s73 s74 s75 s76 s77 s78 s79 s80 s81 s82 s83 s84 s85 s86 s87 s88 s89 s90 s91 s92 s93 s94 s95 s96 s97 s98 s99 s100 s101 s102 s103 s104 s105 s106 s107 s108 s109 s110 s111 s112 s113 s114 s115 s116 s117 s118 s119 s120 s121 s122 s123 s124 s125 s126 s127 s128 s129 s130 s131 s132 s133 s134 s135 s136 s137 s138 s139 s140 s141 s142 s143 s144 s145 s146 s147 s148 s149 s150 s151 s152 s153 s154 s155 s156 s157 s158 s159 s160 s161 s162 s163 s164 s165 s166 s167 s168 s169 s170 s171 s172 s173 s174 s175 s176 s177 s178 s179 s180 s181 s182 s183 s184 s185 s186 s187 s188 s189 s190 s191 s192 s193 s194 s195 s196 s197 s198 s199 s200 s201 s202 s203 s204 s205 s206 s207 s208 s209 s210 s211 s212 s213 s214 s215 s216 s217 s218 s219 s220 s221 s222 s223 s224 s225 s226 s227 s228 s229 s230 s231 s232 s233 s234 s235 s236 s237 s238 s239 s240 s241 s242 s243 s244 s245 s246 s247 s248 s249 s250 s251 s252 s253 s254 s255 s256 s257 s258 s259 s260 s261 s262 s263 s264 s265 s266 s267 s268 s269 s270 s271 s272 s273 s274 s275 s276 s277 s278 s279 s280 s281 s282 s283 : Value} {l : List Sup} {r : Rls} {ps : List Wri} {ax aw a1 a2 : Option Addr} {cx cw c1 c2 Y : Nat} {u3 u4 : Value} {W0 : World}
    (SX : SlOf 5 RSup W0 ax l) (fx : Fit l.length) (YB : Row W0 Y 56 [.slice a1 r.on.length c1, .slice a2 r.level.length c2, u3, u4]) (RA : RlA W0 a1 a2 c1 c2 r) (PS : SlOf 3 RWri W0 aw ps) (fp : ps.length ≤ 1000)
    (h : ∀ (t10 t39 t40 t41 t42 t43 t238 t239 t240 t241 t242 t243 t244 t245 t246 t247 t248 t249 t250 t251 t252 t253 t254 t255 t256 t257 t258 t259 t260 t261 t262 t263 t264 t265 t266 t267 t268 t269 t270 t271 t272 t273 t274 t275 t276 t277 t278 : Value) (wx : World), Gr W0 wx → Q (.exit 8) { tmps := #[s0, s1, s2, s3, s4, s5, s6, s7, s8, s9, t10, s11, s12, s13, s14, s15, s16, s17, s18, s19, .slice ax l.length cx, s21, .pointer (some ⟨Y, 0, none⟩), s23, s24, s25, s26, s27, s28, s29, s30, s31, s32, s33, .slice aw ps.length cw, s35, s36, s37, s38, t39, t40, t41, t42, t43, s44, s45, s46, s47, s48, s49, s50, s51, s52, s53, s54, s55, s56, s57, s58, s59, s60, s61, s62, s63, s64, s65, s66, s67, s68, s69, s70, s71, s72, s73, s74, s75, s76, s77, s78, s79, s80, s81, s82, s83, s84, s85, s86, s87, s88, s89, s90, s91, s92, s93, s94, s95, s96, s97, s98, s99, s100, s101, s102, s103, s104, s105, s106, s107, s108, s109, s110, s111, s112, s113, s114, s115, s116, s117, s118, s119, s120, s121, s122, s123, s124, s125, s126, s127, s128, s129, s130, s131, s132, s133, s134, s135, s136, s137, s138, s139, s140, s141, s142, s143, s144, s145, s146, s147, s148, s149, s150, s151, s152, s153, s154, s155, s156, s157, s158, s159, s160, s161, s162, s163, s164, s165, s166, s167, s168, s169, s170, s171, s172, s173, s174, s175, s176, s177, s178, s179, s180, s181, s182, s183, s184, s185, s186, s187, s188, s189, s190, s191, s192, s193, s194, s195, s196, s197, s198, s199, s200, s201, s202, s203, s204, s205, s206, s207, s208, s209, s210, s211, s212, s213, s214, s215, s216, s217, s218, s219, s220, s221, s222, s223, s224, s225, s226, s227, s228, s229, s230, s231, s232, s233, s234, s235, s236, s237, t238, t239, t240, t241, t242, t243, t244, t245, t246, t247, t248, t249, t250, t251, t252, t253, t254, t255, t256, t257, t258, t259, t260, t261, t262, t263, t264, t265, t266, t267, t268, t269, t270, t271, t272, t273, t274, t275, t276, t277, t278, s279, s280, s281, s282, s283], defers := [] } wx) :
    (codeIn 8 Try.f7).wp Try.prog Q { tmps := #[s0, s1, s2, s3, s4, s5, s6, s7, s8, s9, s10, s11, s12, s13, s14, s15, s16, s17, s18, s19, .slice ax l.length cx, s21, .pointer (some ⟨Y, 0, none⟩), s23, s24, s25, s26, s27, s28, s29, s30, s31, s32, s33, .slice aw ps.length cw, s35, s36, s37, s38, .int .i64 0, s40, s41, s42, s43, s44, s45, s46, s47, s48, s49, s50, s51, s52, s53, s54, s55, s56, s57, s58, s59, s60, s61, s62, s63, s64, s65, s66, s67, s68, s69, s70, s71, s72, s73, s74, s75, s76, s77, s78, s79, s80, s81, s82, s83, s84, s85, s86, s87, s88, s89, s90, s91, s92, s93, s94, s95, s96, s97, s98, s99, s100, s101, s102, s103, s104, s105, s106, s107, s108, s109, s110, s111, s112, s113, s114, s115, s116, s117, s118, s119, s120, s121, s122, s123, s124, s125, s126, s127, s128, s129, s130, s131, s132, s133, s134, s135, s136, s137, s138, s139, s140, s141, s142, s143, s144, s145, s146, s147, s148, s149, s150, s151, s152, s153, s154, s155, s156, s157, s158, s159, s160, s161, s162, s163, s164, s165, s166, s167, s168, s169, s170, s171, s172, s173, s174, s175, s176, s177, s178, s179, s180, s181, s182, s183, s184, s185, s186, s187, s188, s189, s190, s191, s192, s193, s194, s195, s196, s197, s198, s199, s200, s201, s202, s203, s204, s205, s206, s207, s208, s209, s210, s211, s212, s213, s214, s215, s216, s217, s218, s219, s220, s221, s222, s223, s224, s225, s226, s227, s228, s229, s230, s231, s232, s233, s234, s235, s236, s237, s238, s239, s240, s241, s242, s243, s244, s245, s246, s247, s248, s249, s250, s251, s252, s253, s254, s255, s256, s257, s258, s259, s260, s261, s262, s263, s264, s265, s266, s267, s268, s269, s270, s271, s272, s273, s274, s275, s276, s277, s278, s279, s280, s281, s282, s283], defers := [] } W0 := by
  have HQ := PLift.up h
  clear h
  simp only [codeIn, Try.f7, codeOf, Option.bind_some, Option.getD_some, Nat.beq, cond_true, cond_false]
  have SX' := Lib.hid SX
  have YB' := Lib.hid YB
  have RA' := Lib.hid RA
  have PS' := Lib.hid PS
  clear SX YB RA PS
  go_loopw [39] (fun s wi => ∃ j : Nat, j ≤ ps.length ∧ j ≤ 3 ∧ s = .int .i64 j ∧ Gr W0 wi) (fun s _ => 3 - (intOf s).toNat)
  case atStart => exact ⟨0, Nat.zero_le _, Nat.zero_le _, rfl, Gr.refl _⟩
  case round =>
    obtain ⟨j, hj, hj3, rfl, hg⟩ := hrel
    have GG := Lib.hid hg
    clear hg
    by_cases hl : j < ps.length
    · by_cases h3 : j < 3
      · have j3 : (j : Int) < 3 := by omega
        obtain ⟨g0, ow, rfl, c0, c1x, c2x, wd⟩ := wri_cells PS'.out hl
        have C0 := Lib.hid c0
        have C1 := Lib.hid c1x
        have C2 := Lib.hid c2x
        have LE := Lib.hid (appP_lens l r ps[j])
        have V1 := Lib.hid (fun W (hW : Gr W0 W) => (apply_any l r ps[j] ax a1 a2 cx c1 c2 W (SX'.out.gr RSup.mono hW) fx (RA'.out.on.giB hW) (RA'.out.lv.giI hW) RA'.out.k1 RA'.out.k2 RA'.out.f1 RA'.out.f2 wd).mono (fun e w' h => h.rl (by have := LE.out; have := RA'.out.f1; unfold Fit at *; omega) (by have := LE.out; have := RA'.out.f2; unfold Fit at *; omega) (appP_wide wd)))
        have V2 := Lib.hid (fun W (hW : Gr W0 W) => (refApply_anyZ l r ps[j] ax a1 a2 cx c1 c2 W (SX'.out.gr RSup.mono hW) fx (RA'.out.on.giB hW) (RA'.out.lv.giI hW) RA'.out.f1 RA'.out.f2 wd).mono (fun e w' h => h.rl (by have := LE.out; have := RA'.out.f1; unfold Fit at *; omega) (by have := LE.out; have := RA'.out.f2; unfold Fit at *; omega) (appP_wide wd)))
        obtain ⟨R, hR⟩ : ∃ R, appP l r ps[j] = R := ⟨_, rfl⟩
        obtain ⟨x, hx⟩ : ∃ x, appE l r ps[j] = x := ⟨_, rfl⟩
        rw [hR, hx] at V1 V2
        clear hR hx c0 c1x c2x wd LE
        have lb : (x != x) = false := by simp
        go_upto_region 36 with fail
        refine rx36 (wr := wr) (fun W hW => V1.out W (GG.out.trans hW)) (YB'.out.gr GG.out) hl (cell_gr GG.out C0.out) (cell_gr GG.out C1.out) (cell_gr GG.out C2.out) ?_
        intro t40 t41 t248 t249 t250 t251 t252 t253 t254 t255 t256 t257 t258 N1 w2 hg2 e1 e2 hb1
        subst e1 e2
        simp only [rx36A]
        have G2 := Lib.hid (GG.out.trans hg2)
        have B1 := Lib.hid hb1
        clear hg2 hb1 V1
        go_upto_region 37 with fail
        refine rx37 (wr := w2) (fun W hW => V2.out W (G2.out.trans hW)) (YB'.out.gr G2.out) hl (cell_gr G2.out C0.out) (cell_gr G2.out C1.out) (cell_gr G2.out C2.out) ?_
        intro t42 t43 t259 t260 t261 t262 t263 t264 t265 t266 t267 t268 t269 N2 w3 hg3 e1 e2 hb2
        subst e1 e2
        simp only [rx37A]
        have G3 := Lib.hid (G2.out.trans hg3)
        obtain ⟨b1, b2, d1, d2, row1, rl1⟩ := B1.out.gr hg3
        obtain ⟨b3, b4, d3, d4, row2, rl2⟩ := hb2
        obtain ⟨y0, y1, yh, _⟩ := boxZ row1
        obtain ⟨z0, z1, zh, _⟩ := boxZ row2
        have X := Lib.hid (sameRails_any R R b1 b2 b3 b4 d1 d2 d3 d4 w3 rl1.on rl1.lv rl2.on rl2.lv rl1.f1 rl1.f2 rl2.f1 rl2.f2)
        have dx : decide (R = R) = true := decide_eq_true rfl
        rw [dx] at X
        clear dx hg3 V2 B1 row1 row2 rl1 rl2 C0 C1 C2
        go_wp2_with fail
        refine X.out.mono ?_
        rintro e w4 ⟨rfl, hg4⟩
        have G4 := Lib.hid (G3.out.trans hg4)
        clear hg4 X y0 y1 yh z0 z1 zh
        go_wp2_with fail
        go_roundw
        case rel => exact ⟨j + 1, by omega, by omega, by simp, G4.out⟩
        case measure => simp [intOf]; omega
      · obtain rfl : j = 3 := by omega
        go_wp2_with fail
        exact HQ.down _ _ _ _ _ _ _ _ _ _ _ _ _ _ _ _ _ _ _ _ _ _ _ _ _ _ _ _ _ _ _ _ _ _ _ _ _ _ _ _ _ _ _ _ _ _ _ _ GG.out
    · have e1 : decide (j < ps.length) = false := decide_eq_false hl
      go_wp2_with fail
      exact HQ.down _ _ _ _ _ _ _ _ _ _ _ _ _ _ _ _ _ _ _ _ _ _ _ _ _ _ _ _ _ _ _ _ _ _ _ _ _ _ _ _ _ _ _ _ _ _ _ _ GG.out
noncomputable def runW (r : Rls) (ps : List Wri) : Rls := ps.foldl applyR r
noncomputable def stsK (r : Rls) (ps : List Wri) (k : Nat) : List Rls := (List.range (k + 1)).map fun i => runW r (ps.take i)
theorem stsK_len (r : Rls) (ps : List Wri) (k : Nat) : (stsK r ps k).length = k + 1 := by simp [stsK]
theorem stsK_at (r : Rls) (ps : List Wri) (k i : Nat) (h : i < (stsK r ps k).length) : (stsK r ps k)[i] = runW r (ps.take i) := by simp [stsK]
theorem stsK_succ (r : Rls) (ps : List Wri) (k : Nat) : stsK r ps (k + 1) = stsK r ps k ++ [runW r (ps.take (k + 1))] := by
  unfold stsK; rw [List.range_succ (n := k + 1), List.map_append]; rfl
theorem runW_succ (r : Rls) (ps : List Wri) (k : Nat) (h : k < ps.length) : runW r (ps.take (k + 1)) = applyR (runW r (ps.take k)) ps[k] := by
  unfold runW; rw [show ps.take (k + 1) = ps.take k ++ [ps[k]] from by rw [List.take_add_one, List.getElem?_eq_getElem h]; rfl, List.foldl_append]; rfl
theorem runW_ok {l : List Sup} {r : Rls} (ps : List Wri) (hr : RlsOk l r) (hw : ∀ p ∈ ps, WOk l p) : RlsOk l (runW r ps) := by
  unfold runW
  induction ps generalizing r with
  | nil => exact hr
  | cons p ps ih => exact ih (applyR_ok (hw p (by simp)) hr) (fun q hq => hw q (by simp [hq]))
theorem runW_take_ok {l : List Sup} {r : Rls} (ps : List Wri) (hr : RlsOk l r) (hw : ∀ p ∈ ps, WOk l p) (k : Nat) : RlsOk l (runW r (ps.take k)) := runW_ok _ hr (fun p hp => hw p (List.mem_of_mem_take hp))
theorem infoRls : (Try.prog.info? 31).map (fun i => (i.zero, i.size, i.bytes)) = some (some (.agg #[.slice none 0 0, .slice none 0 0]), 2, 48) := by kernel_rfl
abbrev RT := Rls × (Option Addr × Nat) × (Option Addr × Nat)
def encR (t : RT) : List Value := [.slice t.2.1.1 t.1.on.length t.2.1.2, .slice t.2.2.1 t.1.level.length t.2.2.2]
theorem encR_len (t : RT) : (encR t).length = 2 := rfl
theorem encR_one (t : RT) : ∀ u ∈ encR t, u.oneCell' = true := by
  intro u hu
  simp only [encR, List.mem_cons, List.not_mem_nil, or_false] at hu
  rcases hu with rfl | rfl <;> rfl
def RlRows (w : World) (ts : List RT) : Prop := ∀ t ∈ ts, Own1 0 w 4 (bools t.1.on) t.2.1.1 ∧ Own1 0 w 3 (nums t.1.level) t.2.2.1 ∧ t.1.on.length ≤ t.2.1.2 ∧ t.1.level.length ≤ t.2.2.2
theorem RlRows.gr {w w' : World} {ts : List RT} (h : RlRows w ts) (hg : Gr w w') : RlRows w' ts := fun t ht => by
  obtain ⟨h1, h2, h3⟩ := h t ht
  exact ⟨h1.gr hg, h2.gr hg, h3⟩
theorem RlRows.grown {w w' : World} {ts : List RT} {base n : Nat} {v : Value} {xs : List Value} {o : Obj} (h : RlRows w ts) (ho : w.ownsRow base 31 2 v n xs) (hg : (w.alloc o).grownBy w' v.ownBlock) : RlRows w' ts := fun t ht => by
  obtain ⟨h1, h2, h3⟩ := h t ht
  exact ⟨(h1.gr ((Gr.refl _).alloc o)).grown hg (fun B hB => owns_apart (ho.alloc o) hB (by decide)), (h2.gr ((Gr.refl _).alloc o)).grown hg (fun B hB => owns_apart (ho.alloc o) hB (by decide)), h3⟩
def GivesRs (w : World) (rs : List Rls) (e : Ending) (w' : World) : Prop :=
  ∃ ao cap, e = .returned (.tuple #[.slice ao rs.length cap, .int .i64 0]) ∧ rs.length ≤ cap ∧ SlOf 2 RRls w' ao rs ∧ Gr w w'
theorem rows_sl {w : World} {base : Nat} {v : Value} {ts : List RT} (h : w.ownsRow base 31 2 v ts.length (ts.flatMap encR)) (hr : RlRows w ts) (hw : ∀ t ∈ ts, (∀ k (hk : k < t.1.level.length), Wide t.1.level[k]) ∧ Fit t.1.on.length ∧ Fit t.1.level.length) (hn : 0 < ts.length) :
    ∃ a c, v = .slice a ts.length c ∧ ts.length ≤ c ∧ SlOf 2 RRls w a (ts.map fun t => t.1) := by
  obtain ⟨g, cap, rfl, hc, hb, hcell⟩ := owns_cell h hn
  refine ⟨_, cap, rfl, hc, fun k hk => ⟨g, 0, rfl, ?_⟩⟩
  have hk' : k < ts.length := by simpa using hk
  have key : ∀ j, (hj : j < 2) → w.cell? ⟨g, 0 + k * 2 + j, none⟩ = (encR ts[k])[j]? := fun j hj => by
    rw [← flat_at encR 2 encR_len ts k j hk' hj, Nat.zero_add]
    exact hcell _ (by omega)
  have hs : (ts.map fun t => t.1)[k] = ts[k].1 := by simp
  obtain ⟨r1, r2, r3, r4⟩ := hr ts[k] (List.getElem_mem hk')
  obtain ⟨w1, w2, w3⟩ := hw ts[k] (List.getElem_mem hk')
  rw [hs]
  exact ⟨⟨_, _, key 0 (by omega), r3, w2, r1.slB⟩, ⟨_, _, key 1 (by omega), r4, w3, r2.slI w1⟩⟩
theorem ok_wide {l : List Sup} {r : Rls} (h : RlsOk l r) : (∀ k (hk : k < r.level.length), Wide r.level[k]) ∧ Fit r.on.length ∧ Fit r.level.length := by
  refine ⟨lv_wide (rls_wide h), ?_⟩
  have h1 := rls_fit' h
  have h2 := h.2.1
  have h3 := h.2.2.1
  unfold Fit; omega
theorem cell_two' (w : World) (x y : Value) (t : TypeId) (B : Nat) (hB : B = w.heap.size) : ∀ j u, [x, y][j]? = some u → (w.alloc (.cells #[x, y] t)).cell? ((⟨B, 0, none⟩ : Addr).add j) = some u := by
  subst hB; exact cell_two_new w x y t
end Go.Proofs.Ytoenkcojfogmmaa
