/- The tests of RampGrows, region 20 (printed by wip/tools/grows.py). -/
import Derived.Test.YtoenkcojfogmmaaRmpA
import Derived.Test.YtoenkcojfogmmaaFind
set_option linter.unusedVariables false
set_option linter.unusedSimpArgs false
namespace Go.Proofs.Ytoenkcojfogmmaa
open Go.RowKit
set_option maxRecDepth 100000 in
set_option maxHeartbeats 4000000 in
theorem rg20_z {Q : Exit → Act → World → Prop} {wr : World} {B18 B19 B20 b1 o1 n1 c1 b2 o2 n2 c2 n3 c3 b4 o4 n4 c4 u : Nat} {x3 : Option Addr} {lx ly : Int} {ob : Bool} {s0 s1 s2 s3 s4 s5 s6 s7 s8 s9 s10 s11 s12 s13 s14 s15 s16 s17 s21 s22 s23 s24 s25 s26 s27 s28 s29 s30 s31 s32 s33 s34 s35 s36 s37 s38 s39 s40 s41 s42 s43 s44 s45 s46 s47 s48 s49 s50 s51 s52 s53 s54 s55 s56 s57 s58 s59 s60 s61 s62 s63 s64 s65 s66 s67 s68 s69 s70 s71 s72 s73 s74 s75 s76 s77 s78 s79 s80 s81 s82 s83 s84 s85 s86 s87 s88 s89 s90 s91 s92 s93 s94 s95 s96 s97 s98 s99 s100 s101 s102 s103 s104 s105 s106 s107 s108 s109 s110 s111 s112 s113 s114 s115 s116 s117 s118 s119 s120 s121 s122 s123 s124 s125 s126 s127 s128 s129 s130 s131 s132 s133 s134 s135 s136 s137 s138 s139 s140 s141 s142 s143 s144 s145 s146 s147 s148 s149 s150 s151 s152 s153 s154 s155 s156 s157 s158 s159 s160 s161 s162 s163 s164 s165 s166 s167 s168 s169 s170 s171 s172 s173 s174 s175 s176 s177 s178 s179 s180 s181 s182 : Value}
    (e0 : wr.cell? ⟨B18, 0, none⟩ = some (.int .i64 3)) (e1 : wr.cell? ⟨B18, 1, none⟩ = some (.int .i64 (u : Int))) (e2 : wr.cell? ⟨B18, 2, none⟩ = some (.int .i64 0))
    (e3 : wr.cell? ⟨B19, 0, none⟩ = some (.slice (some ⟨b1, o1, none⟩) n1 c1)) (e4 : wr.cell? ⟨B19, 1, none⟩ = some (.slice (some ⟨b2, o2, none⟩) n2 c2)) (e5 : wr.cell? ⟨B20, 0, none⟩ = some (.slice x3 n3 c3)) (e6 : wr.cell? ⟨B20, 1, none⟩ = some (.slice (some ⟨b4, o4, none⟩) n4 c4))
    (q1 : wr.cell? ⟨b1, o1 + u, none⟩ = some (.bool ob)) (q2 : wr.cell? ⟨b2, o2 + u, none⟩ = some (.int .i64 lx)) (q4 : wr.cell? ⟨b4, o4 + u, none⟩ = some (.int .i64 ly))
    (i1 : (u : Int) < n1) (i2 : (u : Int) < n2) (i4 : (u : Int) < n4)
    (h : ∀ t141 t142 t143 t144 t145 t146 t147 t148 t149 t150 t151 t152 t153 t154 t155 t156 t157 t158 t159 t160 t161 t162 t163 t164 t165 t166 t167 t168 t169 t170 t171 t172 t173 t174 t175 t176 O d, Q .normal { tmps := #[s0, s1, s2, s3, s4, s5, s6, s7, s8, s9, s10, s11, s12, s13, s14, s15, s16, s17, .pointer (some ⟨B18, 0, none⟩), .pointer (some ⟨B19, 0, none⟩), .pointer (some ⟨B20, 0, none⟩), .bool (false), s22, s23, s24, s25, s26, s27, s28, s29, s30, s31, s32, s33, s34, s35, s36, s37, s38, s39, s40, s41, s42, s43, s44, s45, s46, s47, s48, s49, s50, s51, s52, s53, s54, s55, s56, s57, s58, s59, s60, s61, s62, s63, s64, s65, s66, s67, s68, s69, s70, s71, s72, s73, s74, s75, s76, s77, s78, s79, s80, s81, s82, s83, s84, s85, s86, s87, s88, s89, s90, s91, s92, s93, s94, s95, s96, s97, s98, s99, s100, s101, s102, s103, s104, s105, s106, s107, s108, s109, s110, s111, s112, s113, s114, s115, s116, s117, s118, s119, s120, s121, s122, s123, s124, s125, s126, s127, s128, s129, s130, s131, s132, s133, s134, s135, s136, s137, s138, s139, s140, t141, t142, t143, t144, t145, t146, t147, t148, t149, t150, t151, t152, t153, t154, t155, t156, t157, t158, t159, t160, t161, t162, t163, t164, t165, t166, t167, t168, t169, t170, t171, t172, t173, t174, t175, t176, s177, s178, s179, s180, s181, s182], defers := [] } (xt wr O d)) :
    (Code.region 20 (regIn 20 Try.f3) true).wp Try.prog Q { tmps := #[s0, s1, s2, s3, s4, s5, s6, s7, s8, s9, s10, s11, s12, s13, s14, s15, s16, s17, .pointer (some ⟨B18, 0, none⟩), .pointer (some ⟨B19, 0, none⟩), .pointer (some ⟨B20, 0, none⟩), s21, s22, s23, s24, s25, s26, s27, s28, s29, s30, s31, s32, s33, s34, s35, s36, s37, s38, s39, s40, s41, s42, s43, s44, s45, s46, s47, s48, s49, s50, s51, s52, s53, s54, s55, s56, s57, s58, s59, s60, s61, s62, s63, s64, s65, s66, s67, s68, s69, s70, s71, s72, s73, s74, s75, s76, s77, s78, s79, s80, s81, s82, s83, s84, s85, s86, s87, s88, s89, s90, s91, s92, s93, s94, s95, s96, s97, s98, s99, s100, s101, s102, s103, s104, s105, s106, s107, s108, s109, s110, s111, s112, s113, s114, s115, s116, s117, s118, s119, s120, s121, s122, s123, s124, s125, s126, s127, s128, s129, s130, s131, s132, s133, s134, s135, s136, s137, s138, s139, s140, s141, s142, s143, s144, s145, s146, s147, s148, s149, s150, s151, s152, s153, s154, s155, s156, s157, s158, s159, s160, s161, s162, s163, s164, s165, s166, s167, s168, s169, s170, s171, s172, s173, s174, s175, s176, s177, s178, s179, s180, s181, s182], defers := [] } wr := by
  have x18 := has_of_cell e0
  have x19 := has_of_cell e3
  have x20 := has_of_cell e5
  have z1 := has_of_cell q1
  have z2 := has_of_cell q2
  have z4 := has_of_cell q4
  have g0 : (0 : Int) ≤ u := by omega
  have HQ := PLift.up h
  clear h
  simp only [regIn, Try.f3, regOps, Option.bind_some, Option.getD_some, Nat.beq, cond_true, cond_false]
  refine wp_region_grows (by kernel_rfl) (by kernel_rfl) ?_
  (try simp only [List.append_eq, List.cons_append, List.nil_append])
  repeat (go_big_quiet_step (fail))
  refine wpQuiet_nil ?_
  rintro _ ⟨⟨O5, d5⟩, rfl⟩
  exact HQ.down _ _ _ _ _ _ _ _ _ _ _ _ _ _ _ _ _ _ _ _ _ _ _ _ _ _ _ _ _ _ _ _ _ _ _ _ _ _
set_option maxRecDepth 100000 in
set_option maxHeartbeats 4000000 in
theorem rg20_o {Q : Exit → Act → World → Prop} {wr : World} {B18 B19 B20 b1 o1 n1 c1 b2 o2 n2 c2 n3 c3 b4 o4 n4 c4 u : Nat} {x3 : Option Addr} {lx ly : Int} {ob : Bool} {s0 s1 s2 s3 s4 s5 s6 s7 s8 s9 s10 s11 s12 s13 s14 s15 s16 s17 s21 s22 s23 s24 s25 s26 s27 s28 s29 s30 s31 s32 s33 s34 s35 s36 s37 s38 s39 s40 s41 s42 s43 s44 s45 s46 s47 s48 s49 s50 s51 s52 s53 s54 s55 s56 s57 s58 s59 s60 s61 s62 s63 s64 s65 s66 s67 s68 s69 s70 s71 s72 s73 s74 s75 s76 s77 s78 s79 s80 s81 s82 s83 s84 s85 s86 s87 s88 s89 s90 s91 s92 s93 s94 s95 s96 s97 s98 s99 s100 s101 s102 s103 s104 s105 s106 s107 s108 s109 s110 s111 s112 s113 s114 s115 s116 s117 s118 s119 s120 s121 s122 s123 s124 s125 s126 s127 s128 s129 s130 s131 s132 s133 s134 s135 s136 s137 s138 s139 s140 s141 s142 s143 s144 s145 s146 s147 s148 s149 s150 s151 s152 s153 s154 s155 s156 s157 s158 s159 s160 s161 s162 s163 s164 s165 s166 s167 s168 s169 s170 s171 s172 s173 s174 s175 s176 s177 s178 s179 s180 s181 s182 : Value}
    (e0 : wr.cell? ⟨B18, 0, none⟩ = some (.int .i64 3)) (e1 : wr.cell? ⟨B18, 1, none⟩ = some (.int .i64 (u : Int))) (e2 : wr.cell? ⟨B18, 2, none⟩ = some (.int .i64 1))
    (e3 : wr.cell? ⟨B19, 0, none⟩ = some (.slice (some ⟨b1, o1, none⟩) n1 c1)) (e4 : wr.cell? ⟨B19, 1, none⟩ = some (.slice (some ⟨b2, o2, none⟩) n2 c2)) (e5 : wr.cell? ⟨B20, 0, none⟩ = some (.slice x3 n3 c3)) (e6 : wr.cell? ⟨B20, 1, none⟩ = some (.slice (some ⟨b4, o4, none⟩) n4 c4))
    (q1 : wr.cell? ⟨b1, o1 + u, none⟩ = some (.bool ob)) (q2 : wr.cell? ⟨b2, o2 + u, none⟩ = some (.int .i64 lx)) (q4 : wr.cell? ⟨b4, o4 + u, none⟩ = some (.int .i64 ly))
    (i1 : (u : Int) < n1) (i2 : (u : Int) < n2) (i4 : (u : Int) < n4)
    (h : ∀ t141 t142 t143 t144 t145 t146 t147 t148 t149 t150 t151 t152 t153 t154 t155 t156 t157 t158 t159 t160 t161 t162 t163 t164 t165 t166 t167 t168 t169 t170 t171 t172 t173 t174 t175 t176 O d, Q .normal { tmps := #[s0, s1, s2, s3, s4, s5, s6, s7, s8, s9, s10, s11, s12, s13, s14, s15, s16, s17, .pointer (some ⟨B18, 0, none⟩), .pointer (some ⟨B19, 0, none⟩), .pointer (some ⟨B20, 0, none⟩), .bool (true), s22, s23, s24, s25, s26, s27, s28, s29, s30, s31, s32, s33, s34, s35, s36, s37, s38, s39, s40, s41, s42, s43, s44, s45, s46, s47, s48, s49, s50, s51, s52, s53, s54, s55, s56, s57, s58, s59, s60, s61, s62, s63, s64, s65, s66, s67, s68, s69, s70, s71, s72, s73, s74, s75, s76, s77, s78, s79, s80, s81, s82, s83, s84, s85, s86, s87, s88, s89, s90, s91, s92, s93, s94, s95, s96, s97, s98, s99, s100, s101, s102, s103, s104, s105, s106, s107, s108, s109, s110, s111, s112, s113, s114, s115, s116, s117, s118, s119, s120, s121, s122, s123, s124, s125, s126, s127, s128, s129, s130, s131, s132, s133, s134, s135, s136, s137, s138, s139, s140, t141, t142, t143, t144, t145, t146, t147, t148, t149, t150, t151, t152, t153, t154, t155, t156, t157, t158, t159, t160, t161, t162, t163, t164, t165, t166, t167, t168, t169, t170, t171, t172, t173, t174, t175, t176, s177, s178, s179, s180, s181, s182], defers := [] } (xt wr O d)) :
    (Code.region 20 (regIn 20 Try.f3) true).wp Try.prog Q { tmps := #[s0, s1, s2, s3, s4, s5, s6, s7, s8, s9, s10, s11, s12, s13, s14, s15, s16, s17, .pointer (some ⟨B18, 0, none⟩), .pointer (some ⟨B19, 0, none⟩), .pointer (some ⟨B20, 0, none⟩), s21, s22, s23, s24, s25, s26, s27, s28, s29, s30, s31, s32, s33, s34, s35, s36, s37, s38, s39, s40, s41, s42, s43, s44, s45, s46, s47, s48, s49, s50, s51, s52, s53, s54, s55, s56, s57, s58, s59, s60, s61, s62, s63, s64, s65, s66, s67, s68, s69, s70, s71, s72, s73, s74, s75, s76, s77, s78, s79, s80, s81, s82, s83, s84, s85, s86, s87, s88, s89, s90, s91, s92, s93, s94, s95, s96, s97, s98, s99, s100, s101, s102, s103, s104, s105, s106, s107, s108, s109, s110, s111, s112, s113, s114, s115, s116, s117, s118, s119, s120, s121, s122, s123, s124, s125, s126, s127, s128, s129, s130, s131, s132, s133, s134, s135, s136, s137, s138, s139, s140, s141, s142, s143, s144, s145, s146, s147, s148, s149, s150, s151, s152, s153, s154, s155, s156, s157, s158, s159, s160, s161, s162, s163, s164, s165, s166, s167, s168, s169, s170, s171, s172, s173, s174, s175, s176, s177, s178, s179, s180, s181, s182], defers := [] } wr := by
  have x18 := has_of_cell e0
  have x19 := has_of_cell e3
  have x20 := has_of_cell e5
  have z1 := has_of_cell q1
  have z2 := has_of_cell q2
  have z4 := has_of_cell q4
  have g0 : (0 : Int) ≤ u := by omega
  have HQ := PLift.up h
  clear h
  simp only [regIn, Try.f3, regOps, Option.bind_some, Option.getD_some, Nat.beq, cond_true, cond_false]
  refine wp_region_grows (by kernel_rfl) (by kernel_rfl) ?_
  (try simp only [List.append_eq, List.cons_append, List.nil_append])
  repeat (go_big_quiet_step (fail))
  refine wpQuiet_nil ?_
  rintro _ ⟨⟨O5, d5⟩, rfl⟩
  exact HQ.down _ _ _ _ _ _ _ _ _ _ _ _ _ _ _ _ _ _ _ _ _ _ _ _ _ _ _ _ _ _ _ _ _ _ _ _ _ _
set_option maxRecDepth 100000 in
set_option maxHeartbeats 4000000 in
theorem rg20_f {Q : Exit → Act → World → Prop} {wr : World} {B18 B19 B20 b1 o1 n1 c1 b2 o2 n2 c2 n3 c3 b4 o4 n4 c4 u : Nat} {x3 : Option Addr} {lx ly : Int} {vl : Int} {s0 s1 s2 s3 s4 s5 s6 s7 s8 s9 s10 s11 s12 s13 s14 s15 s16 s17 s21 s22 s23 s24 s25 s26 s27 s28 s29 s30 s31 s32 s33 s34 s35 s36 s37 s38 s39 s40 s41 s42 s43 s44 s45 s46 s47 s48 s49 s50 s51 s52 s53 s54 s55 s56 s57 s58 s59 s60 s61 s62 s63 s64 s65 s66 s67 s68 s69 s70 s71 s72 s73 s74 s75 s76 s77 s78 s79 s80 s81 s82 s83 s84 s85 s86 s87 s88 s89 s90 s91 s92 s93 s94 s95 s96 s97 s98 s99 s100 s101 s102 s103 s104 s105 s106 s107 s108 s109 s110 s111 s112 s113 s114 s115 s116 s117 s118 s119 s120 s121 s122 s123 s124 s125 s126 s127 s128 s129 s130 s131 s132 s133 s134 s135 s136 s137 s138 s139 s140 s141 s142 s143 s144 s145 s146 s147 s148 s149 s150 s151 s152 s153 s154 s155 s156 s157 s158 s159 s160 s161 s162 s163 s164 s165 s166 s167 s168 s169 s170 s171 s172 s173 s174 s175 s176 s177 s178 s179 s180 s181 s182 : Value}
    (e0 : wr.cell? ⟨B18, 0, none⟩ = some (.int .i64 2)) (e1 : wr.cell? ⟨B18, 1, none⟩ = some (.int .i64 (u : Int))) (e2 : wr.cell? ⟨B18, 2, none⟩ = some (.int .i64 vl))
    (e3 : wr.cell? ⟨B19, 0, none⟩ = some (.slice (some ⟨b1, o1, none⟩) n1 c1)) (e4 : wr.cell? ⟨B19, 1, none⟩ = some (.slice (some ⟨b2, o2, none⟩) n2 c2)) (e5 : wr.cell? ⟨B20, 0, none⟩ = some (.slice x3 n3 c3)) (e6 : wr.cell? ⟨B20, 1, none⟩ = some (.slice (some ⟨b4, o4, none⟩) n4 c4))
    (q1 : wr.cell? ⟨b1, o1 + u, none⟩ = some (.bool false)) (q2 : wr.cell? ⟨b2, o2 + u, none⟩ = some (.int .i64 lx)) (q4 : wr.cell? ⟨b4, o4 + u, none⟩ = some (.int .i64 ly))
    (i1 : (u : Int) < n1) (i2 : (u : Int) < n2) (i4 : (u : Int) < n4)
    (h : ∀ t141 t142 t143 t144 t145 t146 t147 t148 t149 t150 t151 t152 t153 t154 t155 t156 t157 t158 t159 t160 t161 t162 t163 t164 t165 t166 t167 t168 t169 t170 t171 t172 t173 t174 t175 t176 O d, Q .normal { tmps := #[s0, s1, s2, s3, s4, s5, s6, s7, s8, s9, s10, s11, s12, s13, s14, s15, s16, s17, .pointer (some ⟨B18, 0, none⟩), .pointer (some ⟨B19, 0, none⟩), .pointer (some ⟨B20, 0, none⟩), .bool (false), s22, s23, s24, s25, s26, s27, s28, s29, s30, s31, s32, s33, s34, s35, s36, s37, s38, s39, s40, s41, s42, s43, s44, s45, s46, s47, s48, s49, s50, s51, s52, s53, s54, s55, s56, s57, s58, s59, s60, s61, s62, s63, s64, s65, s66, s67, s68, s69, s70, s71, s72, s73, s74, s75, s76, s77, s78, s79, s80, s81, s82, s83, s84, s85, s86, s87, s88, s89, s90, s91, s92, s93, s94, s95, s96, s97, s98, s99, s100, s101, s102, s103, s104, s105, s106, s107, s108, s109, s110, s111, s112, s113, s114, s115, s116, s117, s118, s119, s120, s121, s122, s123, s124, s125, s126, s127, s128, s129, s130, s131, s132, s133, s134, s135, s136, s137, s138, s139, s140, t141, t142, t143, t144, t145, t146, t147, t148, t149, t150, t151, t152, t153, t154, t155, t156, t157, t158, t159, t160, t161, t162, t163, t164, t165, t166, t167, t168, t169, t170, t171, t172, t173, t174, t175, t176, s177, s178, s179, s180, s181, s182], defers := [] } (xt wr O d)) :
    (Code.region 20 (regIn 20 Try.f3) true).wp Try.prog Q { tmps := #[s0, s1, s2, s3, s4, s5, s6, s7, s8, s9, s10, s11, s12, s13, s14, s15, s16, s17, .pointer (some ⟨B18, 0, none⟩), .pointer (some ⟨B19, 0, none⟩), .pointer (some ⟨B20, 0, none⟩), s21, s22, s23, s24, s25, s26, s27, s28, s29, s30, s31, s32, s33, s34, s35, s36, s37, s38, s39, s40, s41, s42, s43, s44, s45, s46, s47, s48, s49, s50, s51, s52, s53, s54, s55, s56, s57, s58, s59, s60, s61, s62, s63, s64, s65, s66, s67, s68, s69, s70, s71, s72, s73, s74, s75, s76, s77, s78, s79, s80, s81, s82, s83, s84, s85, s86, s87, s88, s89, s90, s91, s92, s93, s94, s95, s96, s97, s98, s99, s100, s101, s102, s103, s104, s105, s106, s107, s108, s109, s110, s111, s112, s113, s114, s115, s116, s117, s118, s119, s120, s121, s122, s123, s124, s125, s126, s127, s128, s129, s130, s131, s132, s133, s134, s135, s136, s137, s138, s139, s140, s141, s142, s143, s144, s145, s146, s147, s148, s149, s150, s151, s152, s153, s154, s155, s156, s157, s158, s159, s160, s161, s162, s163, s164, s165, s166, s167, s168, s169, s170, s171, s172, s173, s174, s175, s176, s177, s178, s179, s180, s181, s182], defers := [] } wr := by
  have x18 := has_of_cell e0
  have x19 := has_of_cell e3
  have x20 := has_of_cell e5
  have z1 := has_of_cell q1
  have z2 := has_of_cell q2
  have z4 := has_of_cell q4
  have g0 : (0 : Int) ≤ u := by omega
  have HQ := PLift.up h
  clear h
  simp only [regIn, Try.f3, regOps, Option.bind_some, Option.getD_some, Nat.beq, cond_true, cond_false]
  refine wp_region_grows (by kernel_rfl) (by kernel_rfl) ?_
  (try simp only [List.append_eq, List.cons_append, List.nil_append])
  repeat (go_big_quiet_step (fail))
  refine wpQuiet_nil ?_
  rintro _ ⟨⟨O5, d5⟩, rfl⟩
  exact HQ.down _ _ _ _ _ _ _ _ _ _ _ _ _ _ _ _ _ _ _ _ _ _ _ _ _ _ _ _ _ _ _ _ _ _ _ _ _ _
set_option maxRecDepth 100000 in
set_option maxHeartbeats 4000000 in
theorem rg20_t {Q : Exit → Act → World → Prop} {wr : World} {B18 B19 B20 b1 o1 n1 c1 b2 o2 n2 c2 n3 c3 b4 o4 n4 c4 u : Nat} {x3 : Option Addr} {lx ly : Int} {vl : Int} {s0 s1 s2 s3 s4 s5 s6 s7 s8 s9 s10 s11 s12 s13 s14 s15 s16 s17 s21 s22 s23 s24 s25 s26 s27 s28 s29 s30 s31 s32 s33 s34 s35 s36 s37 s38 s39 s40 s41 s42 s43 s44 s45 s46 s47 s48 s49 s50 s51 s52 s53 s54 s55 s56 s57 s58 s59 s60 s61 s62 s63 s64 s65 s66 s67 s68 s69 s70 s71 s72 s73 s74 s75 s76 s77 s78 s79 s80 s81 s82 s83 s84 s85 s86 s87 s88 s89 s90 s91 s92 s93 s94 s95 s96 s97 s98 s99 s100 s101 s102 s103 s104 s105 s106 s107 s108 s109 s110 s111 s112 s113 s114 s115 s116 s117 s118 s119 s120 s121 s122 s123 s124 s125 s126 s127 s128 s129 s130 s131 s132 s133 s134 s135 s136 s137 s138 s139 s140 s141 s142 s143 s144 s145 s146 s147 s148 s149 s150 s151 s152 s153 s154 s155 s156 s157 s158 s159 s160 s161 s162 s163 s164 s165 s166 s167 s168 s169 s170 s171 s172 s173 s174 s175 s176 s177 s178 s179 s180 s181 s182 : Value}
    (e0 : wr.cell? ⟨B18, 0, none⟩ = some (.int .i64 2)) (e1 : wr.cell? ⟨B18, 1, none⟩ = some (.int .i64 (u : Int))) (e2 : wr.cell? ⟨B18, 2, none⟩ = some (.int .i64 vl))
    (e3 : wr.cell? ⟨B19, 0, none⟩ = some (.slice (some ⟨b1, o1, none⟩) n1 c1)) (e4 : wr.cell? ⟨B19, 1, none⟩ = some (.slice (some ⟨b2, o2, none⟩) n2 c2)) (e5 : wr.cell? ⟨B20, 0, none⟩ = some (.slice x3 n3 c3)) (e6 : wr.cell? ⟨B20, 1, none⟩ = some (.slice (some ⟨b4, o4, none⟩) n4 c4))
    (q1 : wr.cell? ⟨b1, o1 + u, none⟩ = some (.bool true)) (q2 : wr.cell? ⟨b2, o2 + u, none⟩ = some (.int .i64 lx)) (q4 : wr.cell? ⟨b4, o4 + u, none⟩ = some (.int .i64 ly))
    (i1 : (u : Int) < n1) (i2 : (u : Int) < n2) (i4 : (u : Int) < n4)
    (h : ∀ t141 t142 t143 t144 t145 t146 t147 t148 t149 t150 t151 t152 t153 t154 t155 t156 t157 t158 t159 t160 t161 t162 t163 t164 t165 t166 t167 t168 t169 t170 t171 t172 t173 t174 t175 t176 O d, Q .normal { tmps := #[s0, s1, s2, s3, s4, s5, s6, s7, s8, s9, s10, s11, s12, s13, s14, s15, s16, s17, .pointer (some ⟨B18, 0, none⟩), .pointer (some ⟨B19, 0, none⟩), .pointer (some ⟨B20, 0, none⟩), .bool (decide (lx < ly)), s22, s23, s24, s25, s26, s27, s28, s29, s30, s31, s32, s33, s34, s35, s36, s37, s38, s39, s40, s41, s42, s43, s44, s45, s46, s47, s48, s49, s50, s51, s52, s53, s54, s55, s56, s57, s58, s59, s60, s61, s62, s63, s64, s65, s66, s67, s68, s69, s70, s71, s72, s73, s74, s75, s76, s77, s78, s79, s80, s81, s82, s83, s84, s85, s86, s87, s88, s89, s90, s91, s92, s93, s94, s95, s96, s97, s98, s99, s100, s101, s102, s103, s104, s105, s106, s107, s108, s109, s110, s111, s112, s113, s114, s115, s116, s117, s118, s119, s120, s121, s122, s123, s124, s125, s126, s127, s128, s129, s130, s131, s132, s133, s134, s135, s136, s137, s138, s139, s140, t141, t142, t143, t144, t145, t146, t147, t148, t149, t150, t151, t152, t153, t154, t155, t156, t157, t158, t159, t160, t161, t162, t163, t164, t165, t166, t167, t168, t169, t170, t171, t172, t173, t174, t175, t176, s177, s178, s179, s180, s181, s182], defers := [] } (xt wr O d)) :
    (Code.region 20 (regIn 20 Try.f3) true).wp Try.prog Q { tmps := #[s0, s1, s2, s3, s4, s5, s6, s7, s8, s9, s10, s11, s12, s13, s14, s15, s16, s17, .pointer (some ⟨B18, 0, none⟩), .pointer (some ⟨B19, 0, none⟩), .pointer (some ⟨B20, 0, none⟩), s21, s22, s23, s24, s25, s26, s27, s28, s29, s30, s31, s32, s33, s34, s35, s36, s37, s38, s39, s40, s41, s42, s43, s44, s45, s46, s47, s48, s49, s50, s51, s52, s53, s54, s55, s56, s57, s58, s59, s60, s61, s62, s63, s64, s65, s66, s67, s68, s69, s70, s71, s72, s73, s74, s75, s76, s77, s78, s79, s80, s81, s82, s83, s84, s85, s86, s87, s88, s89, s90, s91, s92, s93, s94, s95, s96, s97, s98, s99, s100, s101, s102, s103, s104, s105, s106, s107, s108, s109, s110, s111, s112, s113, s114, s115, s116, s117, s118, s119, s120, s121, s122, s123, s124, s125, s126, s127, s128, s129, s130, s131, s132, s133, s134, s135, s136, s137, s138, s139, s140, s141, s142, s143, s144, s145, s146, s147, s148, s149, s150, s151, s152, s153, s154, s155, s156, s157, s158, s159, s160, s161, s162, s163, s164, s165, s166, s167, s168, s169, s170, s171, s172, s173, s174, s175, s176, s177, s178, s179, s180, s181, s182], defers := [] } wr := by
  have x18 := has_of_cell e0
  have x19 := has_of_cell e3
  have x20 := has_of_cell e5
  have z1 := has_of_cell q1
  have z2 := has_of_cell q2
  have z4 := has_of_cell q4
  have g0 : (0 : Int) ≤ u := by omega
  have HQ := PLift.up h
  clear h
  simp only [regIn, Try.f3, regOps, Option.bind_some, Option.getD_some, Nat.beq, cond_true, cond_false]
  refine wp_region_grows (by kernel_rfl) (by kernel_rfl) ?_
  (try simp only [List.append_eq, List.cons_append, List.nil_append])
  repeat (go_big_quiet_step (fail))
  refine wpQuiet_nil ?_
  rintro _ ⟨⟨O5, d5⟩, rfl⟩
  exact HQ.down _ _ _ _ _ _ _ _ _ _ _ _ _ _ _ _ _ _ _ _ _ _ _ _ _ _ _ _ _ _ _ _ _ _ _ _ _ _
end Go.Proofs.Ytoenkcojfogmmaa
