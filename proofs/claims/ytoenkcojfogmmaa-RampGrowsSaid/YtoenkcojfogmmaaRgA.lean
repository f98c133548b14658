/- Region 17 of RampGrows by itself (printed by wip/tools/grows.py). -/
import Derived.Test.YtoenkcojfogmmaaRfc
import Derived.Test.YtoenkcojfogmmaaFind
import Derived.Test.YtoenkcojfogmmaaInv
set_option linter.unusedVariables false
set_option linter.unusedSimpArgs false
namespace Go.Proofs.Ytoenkcojfogmmaa
open Go.RowKit
theorem not_true12 {done : Array Bool} {i : Nat} {R : Prop} (f : done.getD 12 false = true → (∀ j, j < 12 → done.getD j false = true) ∧ R) (hn : ¬ done.getD i false = true) (hi : i < 12 := by decide) : done.getD 12 false = false := by
  cases h : done.getD 12 false with
  | false => rfl
  | true => exact absurd ((f h).1 i hi) hn
theorem not_true11 {done : Array Bool} {i : Nat} {R : Prop} (f : done.getD 11 false = true → (∀ j, (j < 4 ∨ j = 9 ∨ j = 10) → done.getD j false = true) ∧ R) (hn : ¬ done.getD i false = true) (hi : (i < 4 ∨ i = 9 ∨ i = 10) := by decide) : done.getD 11 false = false := by
  cases h : done.getD 11 false with
  | false => rfl
  | true => exact absurd ((f h).1 i hi) hn
/-- What is known of each slot as soon as its operation is done. -/
def rg17F (wr : World) (k bs os ns cs : Nat) (x0 x1 x2 x3 : Option Addr) (n0 m0 n1 m1 n2 m2 n3 m3 : Nat) (t19 t20 t96 t97 t98 t99 t100 t101 t102 t103 t104 : Value) (d : Array Bool) (w : World) : Prop :=
  Gr wr w ∧ (d.getD 0 false = true → t96 = .slice (some ⟨bs, os, none⟩) ns cs) ∧
  (d.getD 1 false = true → t97 = .int .i64 k) ∧
  (d.getD 2 false = true → t98 = .pointer (some ⟨bs, os + k * 2, none⟩)) ∧
  (d.getD 3 false = true → t99 = .agg #[(.slice x0 n0 m0), (.slice x1 n1 m1)]) ∧
  (d.getD 4 false = true → t100 = .slice (some ⟨bs, os, none⟩) ns cs) ∧
  (d.getD 5 false = true → t101 = .int .i64 k) ∧
  (d.getD 6 false = true → t102 = .int .i64 ((k : Int) + 1)) ∧
  (d.getD 7 false = true → t103 = .pointer (some ⟨bs, os + (k + 1) * 2, none⟩)) ∧
  (d.getD 8 false = true → t104 = .agg #[(.slice x2 n2 m2), (.slice x3 n3 m3)]) ∧
  (d.getD 9 false = true → ∃ B, t19 = .pointer (some ⟨B, 0, none⟩) ∧ wr.heap.size ≤ B ∧ (d.getD 11 false = false → Row w B 31 [.slice none 0 0, .slice none 0 0])) ∧
  (d.getD 10 false = true → ∃ B, t20 = .pointer (some ⟨B, 0, none⟩) ∧ wr.heap.size ≤ B ∧ (d.getD 12 false = false → Row w B 31 [.slice none 0 0, .slice none 0 0]) ∧ (∀ B9, d.getD 9 false = true → t19 = .pointer (some ⟨B9, 0, none⟩) → B9 ≠ B)) ∧
  (d.getD 11 false = true → (∀ j, (j < 4 ∨ j = 9 ∨ j = 10) → d.getD j false = true) ∧ ∃ B, t19 = .pointer (some ⟨B, 0, none⟩) ∧ Row w B 31 [(.slice x0 n0 m0), (.slice x1 n1 m1)]) ∧
  (d.getD 12 false = true → (∀ j, j < 12 → d.getD j false = true) ∧ ∃ B, t20 = .pointer (some ⟨B, 0, none⟩) ∧ Row w B 31 [(.slice x2 n2 m2), (.slice x3 n3 m3)])
/-- The frame. -/
def rg17A (k bs os ns cs : Nat) (t19 t20 t96 t97 t98 t99 t100 t101 t102 t103 t104 s0 s1 s2 s3 s4 s5 s6 s7 s8 s9 s10 s11 s12 s13 s15 s16 s18 s21 s22 s23 s24 s25 s26 s27 s28 s29 s30 s31 s32 s33 s34 s35 s36 s37 s38 s39 s40 s41 s42 s43 s44 s45 s46 s47 s48 s49 s50 s51 s52 s53 s54 s55 s56 s57 s58 s59 s60 s61 s62 s63 s64 s65 s66 s67 s68 s69 s70 s71 s72 s73 s74 s75 s76 s77 s78 s79 s80 s81 s82 s83 s84 s85 s86 s87 s88 s89 s90 s91 s92 s93 s94 s95 s105 s106 s107 s108 s109 s110 s111 s112 s113 s114 s115 s116 s117 s118 s119 s120 s121 s122 s123 s124 s125 s126 s127 s128 s129 s130 s131 s132 s133 s134 s135 s136 s137 s138 s139 s140 s141 s142 s143 s144 s145 s146 s147 s148 s149 s150 s151 s152 s153 s154 s155 s156 s157 s158 s159 s160 s161 s162 s163 s164 s165 s166 s167 s168 s169 s170 s171 s172 s173 s174 s175 s176 s177 s178 s179 s180 s181 s182 : Value) : Act := { tmps := #[s0, s1, s2, s3, s4, s5, s6, s7, s8, s9, s10, s11, s12, s13, .slice (some ⟨bs, os, none⟩) ns cs, s15, s16, .int .i64 k, s18, t19, t20, s21, s22, s23, s24, s25, s26, s27, s28, s29, s30, s31, s32, s33, s34, s35, s36, s37, s38, s39, s40, s41, s42, s43, s44, s45, s46, s47, s48, s49, s50, s51, s52, s53, s54, s55, s56, s57, s58, s59, s60, s61, s62, s63, s64, s65, s66, s67, s68, s69, s70, s71, s72, s73, s74, s75, s76, s77, s78, s79, s80, s81, s82, s83, s84, s85, s86, s87, s88, s89, s90, s91, s92, s93, s94, s95, t96, t97, t98, t99, t100, t101, t102, t103, t104, s105, s106, s107, s108, s109, s110, s111, s112, s113, s114, s115, s116, s117, s118, s119, s120, s121, s122, s123, s124, s125, s126, s127, s128, s129, s130, s131, s132, s133, s134, s135, s136, s137, s138, s139, s140, s141, s142, s143, s144, s145, s146, s147, s148, s149, s150, s151, s152, s153, s154, s155, s156, s157, s158, s159, s160, s161, s162, s163, s164, s165, s166, s167, s168, s169, s170, s171, s172, s173, s174, s175, s176, s177, s178, s179, s180, s181, s182], defers := [] }

set_option maxRecDepth 100000 in
set_option maxHeartbeats 4000000 in
theorem rg17 {Q : Exit → Act → World → Prop} {wr : World} {k bs os ns cs : Nat} {x0 x1 x2 x3 : Option Addr} {n0 m0 n1 m1 n2 m2 n3 m3 : Nat}  {s0 s1 s2 s3 s4 s5 s6 s7 s8 s9 s10 s11 s12 s13 s15 s16 s18 s19 s20 s21 s22 s23 s24 s25 s26 s27 s28 s29 s30 s31 s32 s33 s34 s35 s36 s37 s38 s39 s40 s41 s42 s43 s44 s45 s46 s47 s48 s49 s50 s51 s52 s53 s54 s55 s56 s57 s58 s59 s60 s61 s62 s63 s64 s65 s66 s67 s68 s69 s70 s71 s72 s73 s74 s75 s76 s77 s78 s79 s80 s81 s82 s83 s84 s85 s86 s87 s88 s89 s90 s91 s92 s93 s94 s95 s96 s97 s98 s99 s100 s101 s102 s103 s104 s105 s106 s107 s108 s109 s110 s111 s112 s113 s114 s115 s116 s117 s118 s119 s120 s121 s122 s123 s124 s125 s126 s127 s128 s129 s130 s131 s132 s133 s134 s135 s136 s137 s138 s139 s140 s141 s142 s143 s144 s145 s146 s147 s148 s149 s150 s151 s152 s153 s154 s155 s156 s157 s158 s159 s160 s161 s162 s163 s164 s165 s166 s167 s168 s169 s170 s171 s172 s173 s174 s175 s176 s177 s178 s179 s180 s181 s182 : Value} (q0 : wr.cell? ⟨bs, os + k * 2, none⟩ = some (.slice x0 n0 m0)) (q1 : wr.cell? ⟨bs, os + k * 2 + 1, none⟩ = some (.slice x1 n1 m1)) (q2 : wr.cell? ⟨bs, os + (k + 1) * 2, none⟩ = some (.slice x2 n2 m2)) (q3 : wr.cell? ⟨bs, os + (k + 1) * 2 + 1, none⟩ = some (.slice x3 n3 m3)) (hk : k + 1 < ns) (hn : ns ≤ 100000)
    (h : ∀ t96 t97 t98 t99 t100 t101 t102 t103 t104 B19 B20 wx, Row wx B19 31 [(.slice x0 n0 m0), (.slice x1 n1 m1)] → Row wx B20 31 [(.slice x2 n2 m2), (.slice x3 n3 m3)] → wr.heap.size ≤ B19 → wr.heap.size ≤ B20 → Gr wr wx → Q .normal (rg17A k bs os ns cs (.pointer (some ⟨B19, 0, none⟩)) (.pointer (some ⟨B20, 0, none⟩)) t96 t97 t98 t99 t100 t101 t102 t103 t104 s0 s1 s2 s3 s4 s5 s6 s7 s8 s9 s10 s11 s12 s13 s15 s16 s18 s21 s22 s23 s24 s25 s26 s27 s28 s29 s30 s31 s32 s33 s34 s35 s36 s37 s38 s39 s40 s41 s42 s43 s44 s45 s46 s47 s48 s49 s50 s51 s52 s53 s54 s55 s56 s57 s58 s59 s60 s61 s62 s63 s64 s65 s66 s67 s68 s69 s70 s71 s72 s73 s74 s75 s76 s77 s78 s79 s80 s81 s82 s83 s84 s85 s86 s87 s88 s89 s90 s91 s92 s93 s94 s95 s105 s106 s107 s108 s109 s110 s111 s112 s113 s114 s115 s116 s117 s118 s119 s120 s121 s122 s123 s124 s125 s126 s127 s128 s129 s130 s131 s132 s133 s134 s135 s136 s137 s138 s139 s140 s141 s142 s143 s144 s145 s146 s147 s148 s149 s150 s151 s152 s153 s154 s155 s156 s157 s158 s159 s160 s161 s162 s163 s164 s165 s166 s167 s168 s169 s170 s171 s172 s173 s174 s175 s176 s177 s178 s179 s180 s181 s182) wx) :
    (Code.region 17 (regIn 17 Try.f3) true).wp Try.prog Q { tmps := #[s0, s1, s2, s3, s4, s5, s6, s7, s8, s9, s10, s11, s12, s13, .slice (some ⟨bs, os, none⟩) ns cs, s15, s16, .int .i64 k, s18, s19, s20, s21, s22, s23, s24, s25, s26, s27, s28, s29, s30, s31, s32, s33, s34, s35, s36, s37, s38, s39, s40, s41, s42, s43, s44, s45, s46, s47, s48, s49, s50, s51, s52, s53, s54, s55, s56, s57, s58, s59, s60, s61, s62, s63, s64, s65, s66, s67, s68, s69, s70, s71, s72, s73, s74, s75, s76, s77, s78, s79, s80, s81, s82, s83, s84, s85, s86, s87, s88, s89, s90, s91, s92, s93, s94, s95, s96, s97, s98, s99, s100, s101, s102, s103, s104, s105, s106, s107, s108, s109, s110, s111, s112, s113, s114, s115, s116, s117, s118, s119, s120, s121, s122, s123, s124, s125, s126, s127, s128, s129, s130, s131, s132, s133, s134, s135, s136, s137, s138, s139, s140, s141, s142, s143, s144, s145, s146, s147, s148, s149, s150, s151, s152, s153, s154, s155, s156, s157, s158, s159, s160, s161, s162, s163, s164, s165, s166, s167, s168, s169, s170, s171, s172, s173, s174, s175, s176, s177, s178, s179, s180, s181, s182], defers := [] } wr := by
  have i1 : (0 : Int) ≤ k := by omega
  have i2 : (k : Int) < ns := by omega
  have i3 : (0 : Int) ≤ (k : Int) + 1 := by omega
  have i4 : (k : Int) + 1 < ns := by omega
  have i5 : ((k : Int) + 1).toNat = k + 1 := by omega
  have i6 : IntKind.i64.wrap ((k : Int) + 1) = (k : Int) + 1 := by rw [IntKind.wrap_i64]; omega
  simp only [regIn, Try.f3, regOps, Option.bind_some, Option.getD_some, Nat.beq, cond_true, cond_false]
  refine wp_region_steps (fun done a w => ∃ t19 t20 t96 t97 t98 t99 t100 t101 t102 t103 t104, a = rg17A k bs os ns cs t19 t20 t96 t97 t98 t99 t100 t101 t102 t103 t104 s0 s1 s2 s3 s4 s5 s6 s7 s8 s9 s10 s11 s12 s13 s15 s16 s18 s21 s22 s23 s24 s25 s26 s27 s28 s29 s30 s31 s32 s33 s34 s35 s36 s37 s38 s39 s40 s41 s42 s43 s44 s45 s46 s47 s48 s49 s50 s51 s52 s53 s54 s55 s56 s57 s58 s59 s60 s61 s62 s63 s64 s65 s66 s67 s68 s69 s70 s71 s72 s73 s74 s75 s76 s77 s78 s79 s80 s81 s82 s83 s84 s85 s86 s87 s88 s89 s90 s91 s92 s93 s94 s95 s105 s106 s107 s108 s109 s110 s111 s112 s113 s114 s115 s116 s117 s118 s119 s120 s121 s122 s123 s124 s125 s126 s127 s128 s129 s130 s131 s132 s133 s134 s135 s136 s137 s138 s139 s140 s141 s142 s143 s144 s145 s146 s147 s148 s149 s150 s151 s152 s153 s154 s155 s156 s157 s158 s159 s160 s161 s162 s163 s164 s165 s166 s167 s168 s169 s170 s171 s172 s173 s174 s175 s176 s177 s178 s179 s180 s181 s182 ∧ rg17F wr k bs os ns cs x0 x1 x2 x3 n0 m0 n1 m1 n2 m2 n3 m3 t19 t20 t96 t97 t98 t99 t100 t101 t102 t103 t104 done w) (by kernel_rfl) (by kernel_rfl) ?_ ⟨?_, ?_, ?_, ?_, ?_, ?_, ?_, ?_, ?_, ?_, ?_, ?_, ?_, trivial⟩ ?_
  · exact ⟨s19, s20, s96, s97, s98, s99, s100, s101, s102, s103, s104, rfl, (Gr.refl _).drew, fun q => absurd q (by decide), fun q => absurd q (by decide), fun q => absurd q (by decide), fun q => absurd q (by decide), fun q => absurd q (by decide), fun q => absurd q (by decide), fun q => absurd q (by decide), fun q => absurd q (by decide), fun q => absurd q (by decide), fun q => absurd q (by decide), fun q => absurd q (by decide), fun q => absurd q (by decide), fun q => absurd q (by decide)⟩
  · rintro done a w hsz hnot hdep ⟨t19, t20, t96, t97, t98, t99, t100, t101, t102, t103, t104, rfl, gw, f0, f1, f2, f3, f4, f5, f6, f7, f8, f9, f10, f11, f12⟩ K hK
    have hn : ¬ done.getD 0 false = true := by rw [getD_both hnot]; decide
    have HK := PLift.up hK
    clear hK 
    simp only [rg17A]
    go_simp
    have gg : Gr w w := Gr.refl _
    refine HK.down _ _ ⟨_, _, _, _, _, _, _, _, _, _, _, rfl, gw, fun _ => rfl, fun q => f1 (done_old q (by decide)), fun q => f2 (done_old q (by decide)), fun q => f3 (done_old q (by decide)), fun q => f4 (done_old q (by decide)), fun q => f5 (done_old q (by decide)), fun q => f6 (done_old q (by decide)), fun q => f7 (done_old q (by decide)), fun q => f8 (done_old q (by decide)), fun q => (let ⟨B, e, h1, h2⟩ := f9 (done_old q (by decide)); ⟨B, e, h1, fun q => (h2 (by rw [getD_set_ne false (by decide)] at q; exact q)).gr gg⟩), fun q => (let ⟨B, e, h1, h2, h3⟩ := f10 (done_old q (by decide)); ⟨B, e, h1, fun q => (h2 (by rw [getD_set_ne false (by decide)] at q; exact q)).gr gg, fun B9 q => h3 B9 (done_old q (by decide))⟩), fun q => absurd ((f11 (done_old q (by decide))).1 0 (by decide)) hn, fun q => absurd ((f12 (done_old q (by decide))).1 0 (by decide)) hn⟩
  · rintro done a w hsz hnot hdep ⟨t19, t20, t96, t97, t98, t99, t100, t101, t102, t103, t104, rfl, gw, f0, f1, f2, f3, f4, f5, f6, f7, f8, f9, f10, f11, f12⟩ K hK
    have hn : ¬ done.getD 1 false = true := by rw [getD_both hnot]; decide
    have HK := PLift.up hK
    clear hK 
    simp only [rg17A]
    go_simp
    have gg : Gr w w := Gr.refl _
    refine HK.down _ _ ⟨_, _, _, _, _, _, _, _, _, _, _, rfl, gw, fun q => f0 (done_old q (by decide)), fun _ => rfl, fun q => f2 (done_old q (by decide)), fun q => f3 (done_old q (by decide)), fun q => f4 (done_old q (by decide)), fun q => f5 (done_old q (by decide)), fun q => f6 (done_old q (by decide)), fun q => f7 (done_old q (by decide)), fun q => f8 (done_old q (by decide)), fun q => (let ⟨B, e, h1, h2⟩ := f9 (done_old q (by decide)); ⟨B, e, h1, fun q => (h2 (by rw [getD_set_ne false (by decide)] at q; exact q)).gr gg⟩), fun q => (let ⟨B, e, h1, h2, h3⟩ := f10 (done_old q (by decide)); ⟨B, e, h1, fun q => (h2 (by rw [getD_set_ne false (by decide)] at q; exact q)).gr gg, fun B9 q => h3 B9 (done_old q (by decide))⟩), fun q => absurd ((f11 (done_old q (by decide))).1 1 (by decide)) hn, fun q => absurd ((f12 (done_old q (by decide))).1 1 (by decide)) hn⟩
  · rintro done a w hsz hnot hdep ⟨t19, t20, t96, t97, t98, t99, t100, t101, t102, t103, t104, rfl, gw, f0, f1, f2, f3, f4, f5, f6, f7, f8, f9, f10, f11, f12⟩ K hK
    have hn : ¬ done.getD 2 false = true := by rw [getD_both hnot]; decide
    have d0 := hdep 0 (by kernel_rfl)
    have d1 := hdep 1 (by kernel_rfl)
    obtain rfl := f0 d0
    obtain rfl := f1 d1
    have HK := PLift.up hK
    clear hK d0 d1
    simp only [rg17A]
    go_simp
    have gg : Gr w w := Gr.refl _
    refine HK.down _ _ ⟨_, _, _, _, _, _, _, _, _, _, _, rfl, gw, fun q => f0 (done_old q (by decide)), fun q => f1 (done_old q (by decide)), fun _ => rfl, fun q => f3 (done_old q (by decide)), fun q => f4 (done_old q (by decide)), fun q => f5 (done_old q (by decide)), fun q => f6 (done_old q (by decide)), fun q => f7 (done_old q (by decide)), fun q => f8 (done_old q (by decide)), fun q => (let ⟨B, e, h1, h2⟩ := f9 (done_old q (by decide)); ⟨B, e, h1, fun q => (h2 (by rw [getD_set_ne false (by decide)] at q; exact q)).gr gg⟩), fun q => (let ⟨B, e, h1, h2, h3⟩ := f10 (done_old q (by decide)); ⟨B, e, h1, fun q => (h2 (by rw [getD_set_ne false (by decide)] at q; exact q)).gr gg, fun B9 q => h3 B9 (done_old q (by decide))⟩), fun q => absurd ((f11 (done_old q (by decide))).1 2 (by decide)) hn, fun q => absurd ((f12 (done_old q (by decide))).1 2 (by decide)) hn⟩
  · rintro done a w hsz hnot hdep ⟨t19, t20, t96, t97, t98, t99, t100, t101, t102, t103, t104, rfl, gw, f0, f1, f2, f3, f4, f5, f6, f7, f8, f9, f10, f11, f12⟩ K hK
    have hn : ¬ done.getD 3 false = true := by rw [getD_both hnot]; decide
    have d2 := hdep 2 (by kernel_rfl)
    obtain rfl := f2 d2
    have c0 := cell_gr gw q0
    have c1 := cell_gr gw q1
    have ch := has_of_cell c0
    have HK := PLift.up hK
    clear hK d2
    simp only [rg17A]
    go_simp
    have gg : Gr w w := Gr.refl _
    refine HK.down _ _ ⟨_, _, _, _, _, _, _, _, _, _, _, rfl, gw, fun q => f0 (done_old q (by decide)), fun q => f1 (done_old q (by decide)), fun q => f2 (done_old q (by decide)), fun _ => rfl, fun q => f4 (done_old q (by decide)), fun q => f5 (done_old q (by decide)), fun q => f6 (done_old q (by decide)), fun q => f7 (done_old q (by decide)), fun q => f8 (done_old q (by decide)), fun q => (let ⟨B, e, h1, h2⟩ := f9 (done_old q (by decide)); ⟨B, e, h1, fun q => (h2 (by rw [getD_set_ne false (by decide)] at q; exact q)).gr gg⟩), fun q => (let ⟨B, e, h1, h2, h3⟩ := f10 (done_old q (by decide)); ⟨B, e, h1, fun q => (h2 (by rw [getD_set_ne false (by decide)] at q; exact q)).gr gg, fun B9 q => h3 B9 (done_old q (by decide))⟩), fun q => absurd ((f11 (done_old q (by decide))).1 3 (by decide)) hn, fun q => absurd ((f12 (done_old q (by decide))).1 3 (by decide)) hn⟩
  · rintro done a w hsz hnot hdep ⟨t19, t20, t96, t97, t98, t99, t100, t101, t102, t103, t104, rfl, gw, f0, f1, f2, f3, f4, f5, f6, f7, f8, f9, f10, f11, f12⟩ K hK
    have hn : ¬ done.getD 4 false = true := by rw [getD_both hnot]; decide
    have HK := PLift.up hK
    clear hK 
    simp only [rg17A]
    go_simp
    have gg : Gr w w := Gr.refl _
    refine HK.down _ _ ⟨_, _, _, _, _, _, _, _, _, _, _, rfl, gw, fun q => f0 (done_old q (by decide)), fun q => f1 (done_old q (by decide)), fun q => f2 (done_old q (by decide)), fun q => f3 (done_old q (by decide)), fun _ => rfl, fun q => f5 (done_old q (by decide)), fun q => f6 (done_old q (by decide)), fun q => f7 (done_old q (by decide)), fun q => f8 (done_old q (by decide)), fun q => (let ⟨B, e, h1, h2⟩ := f9 (done_old q (by decide)); ⟨B, e, h1, fun q => (h2 (by rw [getD_set_ne false (by decide)] at q; exact q)).gr gg⟩), fun q => (let ⟨B, e, h1, h2, h3⟩ := f10 (done_old q (by decide)); ⟨B, e, h1, fun q => (h2 (by rw [getD_set_ne false (by decide)] at q; exact q)).gr gg, fun B9 q => h3 B9 (done_old q (by decide))⟩), fun q => (let ⟨h0, B, e, h1⟩ := f11 (done_old q (by decide)); ⟨fun j hj => getD_set_true (h0 j hj), B, e, h1.gr gg⟩), fun q => absurd ((f12 (done_old q (by decide))).1 4 (by decide)) hn⟩
  · rintro done a w hsz hnot hdep ⟨t19, t20, t96, t97, t98, t99, t100, t101, t102, t103, t104, rfl, gw, f0, f1, f2, f3, f4, f5, f6, f7, f8, f9, f10, f11, f12⟩ K hK
    have hn : ¬ done.getD 5 false = true := by rw [getD_both hnot]; decide
    have HK := PLift.up hK
    clear hK 
    simp only [rg17A]
    go_simp
    have gg : Gr w w := Gr.refl _
    refine HK.down _ _ ⟨_, _, _, _, _, _, _, _, _, _, _, rfl, gw, fun q => f0 (done_old q (by decide)), fun q => f1 (done_old q (by decide)), fun q => f2 (done_old q (by decide)), fun q => f3 (done_old q (by decide)), fun q => f4 (done_old q (by decide)), fun _ => rfl, fun q => f6 (done_old q (by decide)), fun q => f7 (done_old q (by decide)), fun q => f8 (done_old q (by decide)), fun q => (let ⟨B, e, h1, h2⟩ := f9 (done_old q (by decide)); ⟨B, e, h1, fun q => (h2 (by rw [getD_set_ne false (by decide)] at q; exact q)).gr gg⟩), fun q => (let ⟨B, e, h1, h2, h3⟩ := f10 (done_old q (by decide)); ⟨B, e, h1, fun q => (h2 (by rw [getD_set_ne false (by decide)] at q; exact q)).gr gg, fun B9 q => h3 B9 (done_old q (by decide))⟩), fun q => (let ⟨h0, B, e, h1⟩ := f11 (done_old q (by decide)); ⟨fun j hj => getD_set_true (h0 j hj), B, e, h1.gr gg⟩), fun q => absurd ((f12 (done_old q (by decide))).1 5 (by decide)) hn⟩
  · rintro done a w hsz hnot hdep ⟨t19, t20, t96, t97, t98, t99, t100, t101, t102, t103, t104, rfl, gw, f0, f1, f2, f3, f4, f5, f6, f7, f8, f9, f10, f11, f12⟩ K hK
    have hn : ¬ done.getD 6 false = true := by rw [getD_both hnot]; decide
    have d5 := hdep 5 (by kernel_rfl)
    obtain rfl := f5 d5
    have HK := PLift.up hK
    clear hK d5
    simp only [rg17A]
    go_simp
    have gg : Gr w w := Gr.refl _
    refine HK.down _ _ ⟨_, _, _, _, _, _, _, _, _, _, _, rfl, gw, fun q => f0 (done_old q (by decide)), fun q => f1 (done_old q (by decide)), fun q => f2 (done_old q (by decide)), fun q => f3 (done_old q (by decide)), fun q => f4 (done_old q (by decide)), fun q => f5 (done_old q (by decide)), fun _ => rfl, fun q => f7 (done_old q (by decide)), fun q => f8 (done_old q (by decide)), fun q => (let ⟨B, e, h1, h2⟩ := f9 (done_old q (by decide)); ⟨B, e, h1, fun q => (h2 (by rw [getD_set_ne false (by decide)] at q; exact q)).gr gg⟩), fun q => (let ⟨B, e, h1, h2, h3⟩ := f10 (done_old q (by decide)); ⟨B, e, h1, fun q => (h2 (by rw [getD_set_ne false (by decide)] at q; exact q)).gr gg, fun B9 q => h3 B9 (done_old q (by decide))⟩), fun q => (let ⟨h0, B, e, h1⟩ := f11 (done_old q (by decide)); ⟨fun j hj => getD_set_true (h0 j hj), B, e, h1.gr gg⟩), fun q => absurd ((f12 (done_old q (by decide))).1 6 (by decide)) hn⟩
  · rintro done a w hsz hnot hdep ⟨t19, t20, t96, t97, t98, t99, t100, t101, t102, t103, t104, rfl, gw, f0, f1, f2, f3, f4, f5, f6, f7, f8, f9, f10, f11, f12⟩ K hK
    have hn : ¬ done.getD 7 false = true := by rw [getD_both hnot]; decide
    have d4 := hdep 4 (by kernel_rfl)
    have d6 := hdep 6 (by kernel_rfl)
    obtain rfl := f4 d4
    obtain rfl := f6 d6
    have HK := PLift.up hK
    clear hK d4 d6
    simp only [rg17A]
    go_simp
    have gg : Gr w w := Gr.refl _
    refine HK.down _ _ ⟨_, _, _, _, _, _, _, _, _, _, _, rfl, gw, fun q => f0 (done_old q (by decide)), fun q => f1 (done_old q (by decide)), fun q => f2 (done_old q (by decide)), fun q => f3 (done_old q (by decide)), fun q => f4 (done_old q (by decide)), fun q => f5 (done_old q (by decide)), fun q => f6 (done_old q (by decide)), fun _ => rfl, fun q => f8 (done_old q (by decide)), fun q => (let ⟨B, e, h1, h2⟩ := f9 (done_old q (by decide)); ⟨B, e, h1, fun q => (h2 (by rw [getD_set_ne false (by decide)] at q; exact q)).gr gg⟩), fun q => (let ⟨B, e, h1, h2, h3⟩ := f10 (done_old q (by decide)); ⟨B, e, h1, fun q => (h2 (by rw [getD_set_ne false (by decide)] at q; exact q)).gr gg, fun B9 q => h3 B9 (done_old q (by decide))⟩), fun q => (let ⟨h0, B, e, h1⟩ := f11 (done_old q (by decide)); ⟨fun j hj => getD_set_true (h0 j hj), B, e, h1.gr gg⟩), fun q => absurd ((f12 (done_old q (by decide))).1 7 (by decide)) hn⟩
  · rintro done a w hsz hnot hdep ⟨t19, t20, t96, t97, t98, t99, t100, t101, t102, t103, t104, rfl, gw, f0, f1, f2, f3, f4, f5, f6, f7, f8, f9, f10, f11, f12⟩ K hK
    have hn : ¬ done.getD 8 false = true := by rw [getD_both hnot]; decide
    have d7 := hdep 7 (by kernel_rfl)
    obtain rfl := f7 d7
    have c0 := cell_gr gw q2
    have c1 := cell_gr gw q3
    have ch := has_of_cell c0
    have HK := PLift.up hK
    clear hK d7
    simp only [rg17A]
    go_simp
    have gg : Gr w w := Gr.refl _
    refine HK.down _ _ ⟨_, _, _, _, _, _, _, _, _, _, _, rfl, gw, fun q => f0 (done_old q (by decide)), fun q => f1 (done_old q (by decide)), fun q => f2 (done_old q (by decide)), fun q => f3 (done_old q (by decide)), fun q => f4 (done_old q (by decide)), fun q => f5 (done_old q (by decide)), fun q => f6 (done_old q (by decide)), fun q => f7 (done_old q (by decide)), fun _ => rfl, fun q => (let ⟨B, e, h1, h2⟩ := f9 (done_old q (by decide)); ⟨B, e, h1, fun q => (h2 (by rw [getD_set_ne false (by decide)] at q; exact q)).gr gg⟩), fun q => (let ⟨B, e, h1, h2, h3⟩ := f10 (done_old q (by decide)); ⟨B, e, h1, fun q => (h2 (by rw [getD_set_ne false (by decide)] at q; exact q)).gr gg, fun B9 q => h3 B9 (done_old q (by decide))⟩), fun q => (let ⟨h0, B, e, h1⟩ := f11 (done_old q (by decide)); ⟨fun j hj => getD_set_true (h0 j hj), B, e, h1.gr gg⟩), fun q => absurd ((f12 (done_old q (by decide))).1 8 (by decide)) hn⟩
  · rintro done a w hsz hnot hdep ⟨t19, t20, t96, t97, t98, t99, t100, t101, t102, t103, t104, rfl, gw, f0, f1, f2, f3, f4, f5, f6, f7, f8, f9, f10, f11, f12⟩ K hK
    have hn : ¬ done.getD 9 false = true := by rw [getD_both hnot]; decide
    have HK := PLift.up hK
    clear hK 
    simp only [rg17A]
    go_simp
    have gg : Gr w (w.alloc (.cells #[.slice none 0 0, .slice none 0 0] 31)) := (Gr.refl _).alloc _
    refine HK.down _ _ ⟨_, _, _, _, _, _, _, _, _, _, _, rfl, gw.trans gg, fun q => f0 (done_old q (by decide)), fun q => f1 (done_old q (by decide)), fun q => f2 (done_old q (by decide)), fun q => f3 (done_old q (by decide)), fun q => f4 (done_old q (by decide)), fun q => f5 (done_old q (by decide)), fun q => f6 (done_old q (by decide)), fun q => f7 (done_old q (by decide)), fun q => f8 (done_old q (by decide)), ?_, fun q => (let ⟨B, e, h1, h2, h3⟩ := f10 (done_old q (by decide)); ⟨B, e, h1, fun q => (h2 (by rw [getD_set_ne false (by decide)] at q; exact q)).gr gg, fun B9 _ e9 => by cases e9; have := (h2 (not_true12 f12 hn)).has; unfold Has at this; omega⟩), fun q => absurd ((f11 (done_old q (by decide))).1 9 (by decide)) hn, fun q => absurd ((f12 (done_old q (by decide))).1 9 (by decide)) hn⟩
    exact fun _ => ⟨_, rfl, gw.size, fun _ => Row.new w _ _⟩
  · rintro done a w hsz hnot hdep ⟨t19, t20, t96, t97, t98, t99, t100, t101, t102, t103, t104, rfl, gw, f0, f1, f2, f3, f4, f5, f6, f7, f8, f9, f10, f11, f12⟩ K hK
    have hn : ¬ done.getD 10 false = true := by rw [getD_both hnot]; decide
    have HK := PLift.up hK
    clear hK 
    simp only [rg17A]
    go_simp
    have gg : Gr w (w.alloc (.cells #[.slice none 0 0, .slice none 0 0] 31)) := (Gr.refl _).alloc _
    refine HK.down _ _ ⟨_, _, _, _, _, _, _, _, _, _, _, rfl, gw.trans gg, fun q => f0 (done_old q (by decide)), fun q => f1 (done_old q (by decide)), fun q => f2 (done_old q (by decide)), fun q => f3 (done_old q (by decide)), fun q => f4 (done_old q (by decide)), fun q => f5 (done_old q (by decide)), fun q => f6 (done_old q (by decide)), fun q => f7 (done_old q (by decide)), fun q => f8 (done_old q (by decide)), fun q => (let ⟨B, e, h1, h2⟩ := f9 (done_old q (by decide)); ⟨B, e, h1, fun q => (h2 (by rw [getD_set_ne false (by decide)] at q; exact q)).gr gg⟩), ?_, fun q => absurd ((f11 (done_old q (by decide))).1 10 (by decide)) hn, fun q => absurd ((f12 (done_old q (by decide))).1 10 (by decide)) hn⟩
    refine fun _ => ⟨_, rfl, gw.size, fun _ => Row.new w _ _, fun B9 q e9 => ?_⟩
    obtain ⟨B, e, h1, h2⟩ := f9 (done_old q (by decide))
    rw [e9] at e
    cases e
    have := (h2 (not_true11 f11 hn)).has
    unfold Has at this
    omega
  · rintro done a w hsz hnot hdep ⟨t19, t20, t96, t97, t98, t99, t100, t101, t102, t103, t104, rfl, gw, f0, f1, f2, f3, f4, f5, f6, f7, f8, f9, f10, f11, f12⟩ K hK
    have hn : ¬ done.getD 11 false = true := by rw [getD_both hnot]; decide
    have d3 := hdep 3 (by kernel_rfl)
    have d9 := hdep 9 (by kernel_rfl)
    have d10 := hdep 10 (by kernel_rfl)
    obtain rfl := f3 d3
    obtain ⟨B19, rfl, q7, q8⟩ := f9 d9
    obtain ⟨B20, e20, q5, q6, q66⟩ := f10 d10
    have nb := q66 B19 d9 rfl
    have n12 : done.getD 12 false = false := not_true12 f12 hn
    have q9 := q8 (getD_both hnot)
    have q20 := q6 n12
    have y0 := q9.cell 0 (by simp)
    have y1 := q9.cell 1 (by simp)
    have y2 := q9.free 0
    have y3 := q9.free 1
    have yh := q9.has
    simp only [List.getElem_cons_zero, List.getElem_cons_succ] at y0 y1
    have D0 := hdep 0 (by kernel_rfl)
    have D1 := hdep 1 (by kernel_rfl)
    have D2 := hdep 2 (by kernel_rfl)
    have D3 := hdep 3 (by kernel_rfl)
    have E20 := PLift.up e20
    have FF0 := PLift.up f0
    have FF1 := PLift.up f1
    have FF2 := PLift.up f2
    have FF4 := PLift.up f4
    have FF5 := PLift.up f5
    have FF6 := PLift.up f6
    have FF7 := PLift.up f7
    have FF8 := PLift.up f8
    have FF12 := PLift.up f12
    clear e20 f0 f1 f2 f4 f5 f6 f7 f8 f12 q66 q6 f9 f10 f11 f3
    have HK := PLift.up hK
    clear hK d3
    simp only [rg17A]
    go_simp
    refine HK.down _ _ ⟨_, _, _, _, _, _, _, _, _, _, _, rfl, (gw.setc q7).setc q7, fun q => FF0.down (done_old q (by decide)), fun q => FF1.down (done_old q (by decide)), fun q => FF2.down (done_old q (by decide)), fun _ => rfl, fun q => FF4.down (done_old q (by decide)), fun q => FF5.down (done_old q (by decide)), fun q => FF6.down (done_old q (by decide)), fun q => FF7.down (done_old q (by decide)), fun q => FF8.down (done_old q (by decide)), fun _ => ⟨B19, rfl, q7, fun q => absurd q (by rw [getD_set_same (by rw [hsz]; decide)]; decide)⟩, fun _ => ⟨B20, E20.down, q5, fun _ => (q20.oth nb).oth nb, fun B9 _ e9 => by cases e9; exact nb⟩, ?_, fun q => absurd ((FF12.down (done_old q (by decide))).1 11 (by decide)) hn⟩
    exact fun _ => ⟨fun j hj => getD_set_true (by rcases hj with hj | rfl | rfl; (rcases j with _ | _ | _ | _ | j <;> first | assumption | omega); all_goals assumption), B19, rfl, (q9.set 0 _).set 1 _⟩
  · rintro done a w hsz hnot hdep ⟨t19, t20, t96, t97, t98, t99, t100, t101, t102, t103, t104, rfl, gw, f0, f1, f2, f3, f4, f5, f6, f7, f8, f9, f10, f11, f12⟩ K hK
    have hn : ¬ done.getD 12 false = true := by rw [getD_both hnot]; decide
    have d8 := hdep 8 (by kernel_rfl)
    have d9 := hdep 9 (by kernel_rfl)
    have d10 := hdep 10 (by kernel_rfl)
    have d11 := hdep 11 (by kernel_rfl)
    obtain rfl := f8 d8
    have DD : ∀ j, j < 12 → done.getD j false = true := fun j hj => hdep j (by rcases j with _ | _ | _ | _ | _ | _ | _ | _ | _ | _ | _ | _ | j <;> first | omega | kernel_rfl)
    obtain ⟨_, B19, rfl, r19⟩ := f11 d11
    obtain ⟨B20, rfl, q5, q6, q66⟩ := f10 d10
    have nb := q66 B19 d9 rfl
    have q9 := q6 (getD_both hnot)
    have y0 := q9.cell 0 (by simp)
    have y1 := q9.cell 1 (by simp)
    have y2 := q9.free 0
    have y3 := q9.free 1
    have yh := q9.has
    simp only [List.getElem_cons_zero, List.getElem_cons_succ] at y0 y1
    have FF0 := PLift.up f0
    have FF1 := PLift.up f1
    have FF2 := PLift.up f2
    have FF3 := PLift.up f3
    have FF4 := PLift.up f4
    have FF5 := PLift.up f5
    have FF6 := PLift.up f6
    have FF7 := PLift.up f7
    obtain ⟨B9, e9, g9, _⟩ := f9 d9
    cases e9
    have DH := PLift.up DD
    clear DD f0 f1 f2 f3 f4 f5 f6 f7 f8 f9 f10 f11 f12 q66 q6
    have HK := PLift.up hK
    clear hK d8
    simp only [rg17A]
    go_simp
    refine HK.down _ _ ⟨_, _, _, _, _, _, _, _, _, _, _, rfl, (gw.setc q5).setc q5, fun q => FF0.down (done_old q (by decide)), fun q => FF1.down (done_old q (by decide)), fun q => FF2.down (done_old q (by decide)), fun q => FF3.down (done_old q (by decide)), fun q => FF4.down (done_old q (by decide)), fun q => FF5.down (done_old q (by decide)), fun q => FF6.down (done_old q (by decide)), fun q => FF7.down (done_old q (by decide)), fun _ => rfl, fun _ => ⟨B19, rfl, g9, fun q => absurd q (by rw [getD_set_ne false (by decide), DH.down 11 (by decide)]; decide)⟩, fun _ => ⟨B20, rfl, q5, fun q => absurd q (by rw [getD_set_same (by rw [hsz]; decide)]; decide), fun B9 _ e9 => by cases e9; exact nb⟩, fun _ => ⟨fun j hj => getD_set_true (DH.down j (by omega)), B19, rfl, (r19.oth (Ne.symm nb)).oth (Ne.symm nb)⟩, ?_⟩
    exact fun _ => ⟨fun j hj => getD_set_true (DH.down j hj), B20, rfl, (q9.set 0 _).set 1 _⟩
  · rintro done a w hall ⟨t19, t20, t96, t97, t98, t99, t100, t101, t102, t103, t104, rfl, gw, f0, f1, f2, f3, f4, f5, f6, f7, f8, f9, f10, f11, f12⟩
    obtain ⟨_, B19, rfl, r19⟩ := f11 (hall 11 (by decide))
    obtain ⟨_, B20, rfl, r20⟩ := f12 (hall 12 (by decide))
    obtain ⟨B9, e9, g9, _⟩ := f9 (hall 9 (by decide))
    obtain ⟨B0, e0, g0, _⟩ := f10 (hall 10 (by decide))
    cases e9
    cases e0
    exact h _ _ _ _ _ _ _ _ _ B19 B20 w r19 r20 g9 g0 gw
end Go.Proofs.Ytoenkcojfogmmaa
