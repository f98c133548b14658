/- Lemmas and contracts for the proof of LinkAnswers (several texts in one, printed by wip/tools/pack.py): LtP LtN LtK. -/
import Derived.Test.YtdjhnfopdlgliaaGreatLa1pB
import Derived.WalkMore
import Derived.Test.YtdjhnfopdlgliaaGreatLa1pe
import Derived.Deep.Slices
import Derived.Deep.Strs
import Derived.WalkKit
import Derived.ProofKit
import Derived.SizedLaws
set_option maxRecDepth 100000
set_option maxHeartbeats 16000000
set_option linter.unusedVariables false
set_option linter.unusedSimpArgs false
namespace Go.Proofs.YtdjhnfopdlgliaaGreat
open Go.RowKit
open Classical
theorem an2{Q:Exit→Act→World→Prop}{s0 s1 s3 s4 s5 s6 s7 s8 s9 s10 s12 s13 s15 s16 s17 s18 s19 s20 s21 s22 s23 s24 s25 s26 s27 s28 s29 s30 s31 s32 s33 s34 s35 s36 s37 s38 s39 s40 s41 s42 s43 s44 s45 s46 s47 s48 s49 s50 s51 s52 s53 s54 s55 s56 s57 s58 s59 s60 s61 s62 s63 s64 s65 s69 s70 s71 s72 s73 s74 s75 s76 s77 s78 s79 s80 s81 s82 s83 s84 s85 s86 s87 s88 s89 s90 s91 s92 s93 s94 s95 s96 s97 s98 s99 s100 s101 s102 s103 s104 s105 s106 s107 s108 s109 s110 s111 s112 s113 s114 s115 s116 s117 s118 s119 s120 s121 s122 s123 s124 s125 s126 s127 s128 s129 s130 s131 s132 s133 s134 s135 s136 s137 s138 s139 s140 s141 s142 s143 s144 s145 s146 s147 s148 s149 s150 s151 s152 s153 s154 s155 s156 s157 s158 s159 s160 s161 s162 s163 s164 s165 s166 s167 s168 s169 s170 s171 s172 s173 s174 s175 s176 s177 s178 s179 s180 s181 s182 s183 s184 s185 s186 s187 s188 s189 s190 s191 s192 s193 s194 s195 s196 s197 s198 s199 s200 s201 s202 s203 s204 s205 s206 s207 s208 s209 s210 s211 s212 s213 s214 s215 s216 s217 s218 s219 s220 s221 s222 s223 s224 s225 s226 s227 s228 s229:Value}{W9:World}{b n0 P14 PP tl tc:Nat}{ta:Option Addr}{ts:Tr}{LP:List (St×St)}{node:Int}
  (TP:Hid (Tp W9 b n0)) (RX:Hid (Row W9 P14 31 [.slice ta tl tc])) (B14:Hid (P14≠b)) (RP:Hid (Row W9 PP 62 (LP.flatMap encQ))) (BP:Hid (PP≠b)) (LP4:Hid (LP.length=4))
  (SLM:Hid (∀W,Mv b n0 W9 W→SlOf 3 RNod W ta ts)) (htl:Hid (ts.length=tl)) (T400:Hid (ts.length≤400))
  (h:∀(t10 t16 t18 t19 t20 t21 t22 t23 t24 t25 t26 t27 t28 t29 t30 t31 t32 t33 t34 t35 t36 t37 t38 t69 t70 t71 t72 t73 t74 t75 t76 t77 t78 t79 t80 t81 t82 t83 t84 t85 t86 t87 t88 t89 t90 t91 t92 t93 t94 t95 t96 t97 t98 t99 t100 t101 t102 t103 t104 t105 t106 t107 t108 t109 t110 t111 t112 t113 t114 t115 t116 t117 t118 t119 t120 t121 t122 t123 t124 t125 t126 t127 t128 t129 t130 t131 t132 t133 t134 t135 t136 t137 t138 t139 t140 t141 t142 t143 t144 t145 t146 t147 t148 t149 t150 t151 t152 t153 t154 t155 t156 t157 t158 t159 t160 t161 t162 t163 t164 t165 t166 t167 t168 t169 t170 t171 t172 t173 t174 t175 t176 t177 t178 t179 t180 t181 t182 t183 t184 t185 t186 t187 t188 t189 t190 t191 t192 t193 t194 t195 t196 t197 t198 t199 t200 t201 t202 t203 t204 t205 t206 t207 t208 t209 t210 t211 t212 t213 t214 t215 t216 t217 t218 t219 t220 t221 t222 t223 t224 t225 t226 t227:Value) (wx:World),Mv b n0 W9 wx→Q (.exit 2) {tmps:= #[s0,s1,.int .i64 node,s3,s4,s5,s6,s7,s8,s9,t10,.pointer (some ⟨b,0,none⟩),s12,s13,.pointer (some ⟨P14,0,none⟩),s15,t16,s17,t18,t19,t20,t21,t22,t23,t24,t25,t26,t27,t28,t29,t30,t31,t32,t33,t34,t35,t36,t37,t38,s39,s40,s41,s42,s43,s44,s45,s46,s47,s48,s49,s50,s51,s52,s53,s54,s55,s56,s57,s58,s59,s60,s61,s62,s63,s64,s65,.slice (some ⟨PP,0,none⟩) 4 4,.int .i64 4,.int .i64 4,t69,t70,t71,t72,t73,t74,t75,t76,t77,t78,t79,t80,t81,t82,t83,t84,t85,t86,t87,t88,t89,t90,t91,t92,t93,t94,t95,t96,t97,t98,t99,t100,t101,t102,t103,t104,t105,t106,t107,t108,t109,t110,t111,t112,t113,t114,t115,t116,t117,t118,t119,t120,t121,t122,t123,t124,t125,t126,t127,t128,t129,t130,t131,t132,t133,t134,t135,t136,t137,t138,t139,t140,t141,t142,t143,t144,t145,t146,t147,t148,t149,t150,t151,t152,t153,t154,t155,t156,t157,t158,t159,t160,t161,t162,t163,t164,t165,t166,t167,t168,t169,t170,t171,t172,t173,t174,t175,t176,t177,t178,t179,t180,t181,t182,t183,t184,t185,t186,t187,t188,t189,t190,t191,t192,t193,t194,t195,t196,t197,t198,t199,t200,t201,t202,t203,t204,t205,t206,t207,t208,t209,t210,t211,t212,t213,t214,t215,t216,t217,t218,t219,t220,t221,t222,t223,t224,t225,t226,t227,s228,s229],defers:= []} wx):
  (codeIn 2 Tryz.f6).wp Tryz.prog Q {tmps:= #[s0,s1,.int .i64 node,s3,s4,s5,s6,s7,s8,s9,s10,.pointer (some ⟨b,0,none⟩),s12,s13,.pointer (some ⟨P14,0,none⟩),s15,s16,s17,s18,s19,s20,s21,s22,s23,s24,s25,s26,s27,s28,s29,s30,s31,s32,s33,s34,s35,s36,s37,s38,s39,s40,s41,s42,s43,s44,s45,s46,s47,s48,s49,s50,s51,s52,s53,s54,s55,s56,s57,s58,s59,s60,s61,s62,s63,s64,s65,.slice (some ⟨PP,0,none⟩) 4 4,.int .i64 4,.int .i64 0,s69,s70,s71,s72,s73,s74,s75,s76,s77,s78,s79,s80,s81,s82,s83,s84,s85,s86,s87,s88,s89,s90,s91,s92,s93,s94,s95,s96,s97,s98,s99,s100,s101,s102,s103,s104,s105,s106,s107,s108,s109,s110,s111,s112,s113,s114,s115,s116,s117,s118,s119,s120,s121,s122,s123,s124,s125,s126,s127,s128,s129,s130,s131,s132,s133,s134,s135,s136,s137,s138,s139,s140,s141,s142,s143,s144,s145,s146,s147,s148,s149,s150,s151,s152,s153,s154,s155,s156,s157,s158,s159,s160,s161,s162,s163,s164,s165,s166,s167,s168,s169,s170,s171,s172,s173,s174,s175,s176,s177,s178,s179,s180,s181,s182,s183,s184,s185,s186,s187,s188,s189,s190,s191,s192,s193,s194,s195,s196,s197,s198,s199,s200,s201,s202,s203,s204,s205,s206,s207,s208,s209,s210,s211,s212,s213,s214,s215,s216,s217,s218,s219,s220,s221,s222,s223,s224,s225,s226,s227,s228,s229],defers:= []} W9:=by
 have HQ:=PLift.up h
 clear h
 have BH9:Hid (b<W9.heap.size):=Lib.hid TP.out.has
 simp only[codeIn,Tryz.f6,codeOf,Option.bind_some,Option.getD_some,Nat.beq,cond_true,cond_false]
 go_loopw [68] (fun i wr=>∃p:Nat,p≤4∧i= .int .i64 (p:Int)∧Mv b n0 W9 wr) (fun i _=>4-(intOf i).toNat)
 case atStart=>exact⟨0,Nat.zero_le _,rfl,Mv.refl TP.out⟩
 case round=>
  obtain⟨p,hp,rfl,hm⟩:=hrel
  have MA:=Lib.hid hm
  clear hm
  by_cases hl4:p<4
  ·have p4:(p:Int)<4:=by omega
   have HP:=Lib.hid hl4
   have pl:p<LP.length:=by rw[LP4.out];exact hl4
   obtain⟨qq,hqq⟩:∃q,LP[p]=q:=⟨_,rfl⟩
   obtain⟨q1,q2⟩:=qq
   have RPr:=MA.out.row RP.out BP.out
   have p0:wr.cell? ⟨PP,p*2,none⟩=some (.string (bs q1)):=by
    have f0:=flat_at encQ 2 (fun _=>rfl) LP p 0 pl (by decide)
    rw[hqq] at f0
    obtain⟨h1,h2⟩:=List.getElem?_eq_some_iff.1 f0
    have q:=RPr.cell (p*2+0) h1
    rw[h2] at q
    exact q
   have p1:wr.cell? ⟨PP,p*2+1,none⟩=some (.string (bs q2)):=by
    have f0:=flat_at encQ 2 (fun _=>rfl) LP p 1 pl (by decide)
    rw[hqq] at f0
    obtain⟨h1,h2⟩:=List.getElem?_eq_some_iff.1 f0
    have q:=RPr.cell (p*2+1) h1
    rw[h2] at q
    exact q
   have hp0:=has_of_cell p0
   clear RPr hqq pl hl4 hp
   go_upto_region 11 with(fail)
   have RX16:=Lib.hid (Row.new wr #[.string (bs q1),.string (bs q2)] 62)
   obtain⟨w10,hw10⟩:∃W:World,Hid (W=wr.alloc (.cells #[.string (bs q1),.string (bs q2)] 62)):=⟨_,Lib.hid rfl⟩
   have g10:Gr wr w10:=by rw[hw10.out];exact(Gr.refl _).alloc _
   rw[←hw10.out] at RX16 ⊢
   obtain⟨P16,hP16⟩:∃N:Nat,Hid (wr.heap.size=N):=⟨_,Lib.hid rfl⟩
   have B16:Hid (P16≠b):=Lib.hid (by rw[←hP16.out];have:=MA.out.size;have:=BH9.out;omega)
   rw[hP16.out] at RX16 ⊢
   have M10:=Lib.hid (MA.out.gr g10)
   clear hw10 hP16 g10 p0 p1 hp0
   go_wp2_with fail
   refine(rangeM_any w10 b n0 (-1) 9 (M10.out.tp TP.out) (by omega) (by omega) (by omega)).mono ?_
   rintro e w11 ⟨k2,rfl, -,hm11⟩
   have M11:=Lib.hid (M10.out.trans BH9.out hm11)
   have RA16:=Lib.hid (hm11.row RX16.out B16.out)
   have RA14:=Lib.hid (M11.out.row RX.out B14.out)
   clear hm11 RX16
   go_wp2_with fail
   have RK:=Lib.hid (Row.new w11 #[.int .i64 node,.int .i64 k2] 3)
   obtain⟨W12,hW12⟩:∃W:World,Hid (W=w11.alloc (.cells #[.int .i64 node,.int .i64 k2] 3)):=⟨_,Lib.hid rfl⟩
   have g12:Gr w11 W12:=by rw[hW12.out];exact(Gr.refl _).alloc _
   rw[←hW12.out] at RK ⊢
   obtain⟨PK,hPK⟩:∃N:Nat,Hid (w11.heap.size=N):=⟨_,Lib.hid rfl⟩
   rw[hPK.out] at RK ⊢
   have M12:=Lib.hid (M11.out.gr g12)
   have RX14:=Lib.hid (RA14.out.gr g12)
   have RX16:=Lib.hid (RA16.out.gr g12)
   have SLT:Hid (∀W,Gr W12 W→SlOf 3 RNod W ta ts):=Lib.hid (fun W hW=>SLM.out W (M12.out.gr hW))
   clear hW12 hPK g12
   refine wp_code_eq (c:=codeIn 4 Tryz.f6) (by kernel_rfl) (an4 RX14 RX16 RK SLT htl T400 ?_)
   intro t10 t18 t19 t20 t21 t22 t23 t24 t25 t26 t78 t79 t80 t81 t82 t83 t84 t85 t86 t87 t88 t89 t90 t91 t92 t93 t94 t95 t96 t97 t98 t99 t100 t101 t102 t103 t104 t105 t106 t107 t108 t109 t110 t111 t112 t113 t114 t115 t116 t117 t118 t119 t120 t121 t122 t123 t124 t125 t126 t127 t128 t129 t130 t131 t132 t133 t134 t135 t136 t137 t138 t139 t140 t141 wr hg
   have HG:=Lib.hid hg
   clear hg
   have C1:=Lib.hid (fun W (hW:Gr W12 W)=>(by have q:=(allE_any ts ta tc q1 q2 W (SLT.out W hW) (by have:=T400.out;omega)).mono (fun e w' h=>h.uni);rw[htl.out] at q;exact q:Calls Tryz.prog 14 #[.agg #[.slice ta tl tc],.string (bs q1),.string (bs q2)] W (GL W (errK (allE ts q1 q2)) (valK (allE ts q1 q2)))))
   have C2:=Lib.hid (fun W (hW:Gr W12 W)=>(by have q:=(rAllE_any ts ta tc q1 q2 W (SLT.out W hW) (by have:=T400.out;omega)).mono (fun e w' h=>h.uni);rw[htl.out] at q;exact q:Calls Tryz.prog 13 #[.agg #[.slice ta tl tc],.string (bs q1),.string (bs q2)] W (GL W (errK (allE ts q1 q2)) (valK (allE ts q1 q2)))))
   have F1:=Lib.hid (allE_few ts q1 q2)
   obtain⟨e1,he1⟩:∃z,errK (allE ts q1 q2)=z:=⟨_,rfl⟩
   obtain⟨L1,hL1⟩:∃z,valK (allE ts q1 q2)=z:=⟨_,rfl⟩
   rw[he1,hL1] at C1 C2
   rw[hL1] at F1
   clear he1 hL1
   have C3:=Lib.hid (fun W (hW:Gr W12 W)=>(by have q:=(circleE_any ts ta tc q1 q2 W (SLT.out W hW) (by have:=T400.out;omega)).mono (fun e w' h=>h.uni);rw[htl.out] at q;exact q:Calls Tryz.prog 20 #[.agg #[.slice ta tl tc],.string (bs q1),.string (bs q2)] W (GI W (errK (circleE ts q1 q2)) (valZ (circleE ts q1 q2)))))
   have C4:=Lib.hid (fun W (hW:Gr W12 W)=>(by have q:=(rCircleE_any ts ta tc q1 q2 W (SLT.out W hW) (by have:=T400.out;omega)).mono (fun e w' h=>h.uni);rw[htl.out] at q;exact q:Calls Tryz.prog 29 #[.agg #[.slice ta tl tc],.string (bs q1),.string (bs q2)] W (GI W (errK (circleE ts q1 q2)) (valZ (circleE ts q1 q2)))))
   have F3:=Lib.hid (circleE_few ts q1 q2)
   obtain⟨e3,he3⟩:∃z,errK (circleE ts q1 q2)=z:=⟨_,rfl⟩
   obtain⟨L3,hL3⟩:∃z,valZ (circleE ts q1 q2)=z:=⟨_,rfl⟩
   rw[he3,hL3] at C3 C4
   rw[hL3] at F3
   clear he3 hL3
   have C5:=Lib.hid (fun W (hW:Gr W12 W)=>(by have q:=(orderE_any ts ta tc q1 q2 W (SLT.out W hW) (by have:=T400.out;omega)).mono (fun e w' h=>h.uni);rw[htl.out] at q;exact q:Calls Tryz.prog 21 #[.agg #[.slice ta tl tc],.string (bs q1),.string (bs q2)] W (GI W (errK (orderE ts q1 q2)) (valZ (orderE ts q1 q2)))))
   have C6:=Lib.hid (fun W (hW:Gr W12 W)=>(by have q:=(rOrderE_any ts ta tc q1 q2 W (SLT.out W hW) (by have:=T400.out;omega)).mono (fun e w' h=>h.uni);rw[htl.out] at q;exact q:Calls Tryz.prog 30 #[.agg #[.slice ta tl tc],.string (bs q1),.string (bs q2)] W (GI W (errK (orderE ts q1 q2)) (valZ (orderE ts q1 q2)))))
   have F5:=Lib.hid (orderE_few ts q1 q2)
   obtain⟨e5,he5⟩:∃z,errK (orderE ts q1 q2)=z:=⟨_,rfl⟩
   obtain⟨L5,hL5⟩:∃z,valZ (orderE ts q1 q2)=z:=⟨_,rfl⟩
   rw[he5,hL5] at C5 C6
   rw[hL5] at F5
   clear he5 hL5
   have x14:=(RX14.out.gr HG.out).cell 0 (by simp)
   have x16:=(RX16.out.gr HG.out).cell 0 (by simp)
   have y16:=(RX16.out.gr HG.out).cell 1 (by simp)
   simp only[List.getElem_cons_zero,List.getElem_cons_succ] at x14 x16 y16
   have hx14:=has_of_cell x14
   have hx16:=has_of_cell x16
   go_wp2_with fail
   refine(C1.out _ HG.out).mono ?_
   rintro e w1 ⟨v1,l1,rfl,hlk,how,hlr,hgr⟩
   have G1:=Lib.hid (HG.out.trans hgr)
   have K1:=Lib.hid (And.intro hlk (And.intro how hlr))
   have S1:=Lib.hid hgr
   clear hlk how hlr hgr x14 x16 y16 hx14 hx16
   have x14:=(RX14.out.gr G1.out).cell 0 (by simp)
   have x16:=(RX16.out.gr G1.out).cell 0 (by simp)
   have y16:=(RX16.out.gr G1.out).cell 1 (by simp)
   simp only[List.getElem_cons_zero,List.getElem_cons_succ] at x14 x16 y16
   have hx14:=has_of_cell x14
   have hx16:=has_of_cell x16
   go_wp2_with fail
   refine(C2.out _ G1.out).mono ?_
   rintro e w2 ⟨v2,l2,rfl,hlk,how,hlr,hgr⟩
   have G2:=Lib.hid (G1.out.trans hgr)
   have K2:=Lib.hid (And.intro hlk (And.intro how hlr))
   have S2:=Lib.hid hgr
   clear hlk how hlr hgr x14 x16 y16 hx14 hx16
   have x14:=(RX14.out.gr G2.out).cell 0 (by simp)
   have x16:=(RX16.out.gr G2.out).cell 0 (by simp)
   have y16:=(RX16.out.gr G2.out).cell 1 (by simp)
   simp only[List.getElem_cons_zero,List.getElem_cons_succ] at x14 x16 y16
   have hx14:=has_of_cell x14
   have hx16:=has_of_cell x16
   go_wp2_with fail
   refine(C3.out _ G2.out).mono ?_
   rintro e w3 ⟨v3,rfl,how,hwd,hgr⟩
   have G3:=Lib.hid (G2.out.trans hgr)
   have K3:=Lib.hid (And.intro how hwd)
   have S3:=Lib.hid hgr
   clear how hwd hgr x14 x16 y16 hx14 hx16
   have x14:=(RX14.out.gr G3.out).cell 0 (by simp)
   have x16:=(RX16.out.gr G3.out).cell 0 (by simp)
   have y16:=(RX16.out.gr G3.out).cell 1 (by simp)
   simp only[List.getElem_cons_zero,List.getElem_cons_succ] at x14 x16 y16
   have hx14:=has_of_cell x14
   have hx16:=has_of_cell x16
   go_wp2_with fail
   refine(C4.out _ G3.out).mono ?_
   rintro e w4 ⟨v4,rfl,how,hwd,hgr⟩
   have G4:=Lib.hid (G3.out.trans hgr)
   have K4:=Lib.hid (And.intro how hwd)
   have S4:=Lib.hid hgr
   clear how hwd hgr x14 x16 y16 hx14 hx16
   have x14:=(RX14.out.gr G4.out).cell 0 (by simp)
   have x16:=(RX16.out.gr G4.out).cell 0 (by simp)
   have y16:=(RX16.out.gr G4.out).cell 1 (by simp)
   simp only[List.getElem_cons_zero,List.getElem_cons_succ] at x14 x16 y16
   have hx14:=has_of_cell x14
   have hx16:=has_of_cell x16
   go_wp2_with fail
   refine(C5.out _ G4.out).mono ?_
   rintro e w5 ⟨v5,rfl,how,hwd,hgr⟩
   have G5:=Lib.hid (G4.out.trans hgr)
   have K5:=Lib.hid (And.intro how hwd)
   have S5:=Lib.hid hgr
   clear how hwd hgr x14 x16 y16 hx14 hx16
   have x14:=(RX14.out.gr G5.out).cell 0 (by simp)
   have x16:=(RX16.out.gr G5.out).cell 0 (by simp)
   have y16:=(RX16.out.gr G5.out).cell 1 (by simp)
   simp only[List.getElem_cons_zero,List.getElem_cons_succ] at x14 x16 y16
   have hx14:=has_of_cell x14
   have hx16:=has_of_cell x16
   go_wp2_with fail
   refine(C6.out _ G5.out).mono ?_
   rintro e w6 ⟨v6,rfl,how,hwd,hgr⟩
   have G6:=Lib.hid (G5.out.trans hgr)
   have K6:=Lib.hid (And.intro how hwd)
   have S6:=Lib.hid hgr
   clear how hwd hgr x14 x16 y16 hx14 hx16
   go_wp2_with fail
   refine(sameL (Gr.owns K1.out.2.1 (((((S2.out.trans S3.out).trans S4.out).trans S5.out).trans S6.out).trans (by repeat(first|with_reducible exact Gr.refl _|with_reducible refine Gr.xt _ _ ?_|with_reducible refine Gr.drew ?_|with_reducible refine Gr.drewN _ ?_|with_reducible refine Gr.alloc _ ?_)))) (K1.out.2.2.gr (((((S2.out.trans S3.out).trans S4.out).trans S5.out).trans S6.out).trans (by repeat(first|with_reducible exact Gr.refl _|with_reducible refine Gr.xt _ _ ?_|with_reducible refine Gr.drew ?_|with_reducible refine Gr.drewN _ ?_|with_reducible refine Gr.alloc _ ?_)))) K1.out.1 (Gr.owns K2.out.2.1 ((((S3.out.trans S4.out).trans S5.out).trans S6.out).trans (by repeat(first|with_reducible exact Gr.refl _|with_reducible refine Gr.xt _ _ ?_|with_reducible refine Gr.drew ?_|with_reducible refine Gr.drewN _ ?_|with_reducible refine Gr.alloc _ ?_)))) (K2.out.2.2.gr ((((S3.out.trans S4.out).trans S5.out).trans S6.out).trans (by repeat(first|with_reducible exact Gr.refl _|with_reducible refine Gr.xt _ _ ?_|with_reducible refine Gr.drew ?_|with_reducible refine Gr.drewN _ ?_|with_reducible refine Gr.alloc _ ?_)))) K2.out.1 (by have:=F1.out;omega)).mono ?_
   rintro e w7 ⟨rfl,hg7⟩
   have S7:=Lib.hid hg7
   clear hg7
   go_wp2_with fail
   refine(sameI (Gr.owns K3.out.1 (((S4.out.trans S5.out).trans S6.out).trans S7.out)) (Gr.owns K4.out.1 ((S5.out.trans S6.out).trans S7.out)) K3.out.2 (by have:=F3.out;omega)).mono ?_
   rintro e w8 ⟨rfl,hg8⟩
   have S8:=Lib.hid (S7.out.trans hg8)
   clear hg8
   go_wp2_with fail
   refine(sameI (Gr.owns K5.out.1 (S6.out.trans S8.out)) (Gr.owns K6.out.1 ((Gr.refl _).trans S8.out)) K5.out.2 (by have:=F5.out;omega)).mono ?_
   rintro e w9 ⟨rfl,hg9⟩
   have G9:=Lib.hid ((G6.out.trans S8.out).trans hg9)
   clear hg9
   go_wp2_with fail
   go_roundw
   case rel=>exact⟨p+1,by have:=HP.out;omega,by go_num,M12.out.gr G9.out⟩
   case measure=>simp[intOf];have:=HP.out;omega
  ·obtain rfl:p=4:=by omega
   go_wp2_with fail
   exact HQ.down _ _ _ _ _ _ _ _ _ _ _ _ _ _ _ _ _ _ _ _ _ _ _ _ _ _ _ _ _ _ _ _ _ _ _ _ _ _ _ _ _ _ _ _ _ _ _ _ _ _ _ _ _ _ _ _ _ _ _ _ _ _ _ _ _ _ _ _ _ _ _ _ _ _ _ _ _ _ _ _ _ _ _ _ _ _ _ _ _ _ _ _ _ _ _ _ _ _ _ _ _ _ _ _ _ _ _ _ _ _ _ _ _ _ _ _ _ _ _ _ _ _ _ _ _ _ _ _ _ _ _ _ _ _ _ _ _ _ _ _ _ _ _ _ _ _ _ _ _ _ _ _ _ _ _ _ _ _ _ _ _ _ _ _ _ _ _ _ _ _ _ _ _ _ _ _ _ _ _ _ _ _ _ MA.out
theorem RowIn_gr{w w':World}{a:Option Addr}{len cap:Nat}{zs:List Int}(h:RowIn w a len cap zs)(hg:Gr w w'):RowIn w' a len cap zs:=by
 rcases h with h|⟨x,h0,h1,h2,h3,h4,h5⟩
 ·exact .inl h
 ·exact .inr ⟨x,h0,h1,h2,h3,fun i hi=>cell_gr hg (h4 i hi),h5⟩
theorem wp_world_eq{P:Program}{c:Code}{Q:Exit→Act→World→Prop}{a:Act}{w w':World}(e:w=w')(h:c.wp P Q a w'):c.wp P Q a w:=by rw[e];exact h
theorem answers12_walk(a:Option Addr)(len cap:Nat)(zs:List Int)(aR:Option Addr)(raw:Tr)(cR:Nat)(node:Int)(pn cn:St)(w:World)(h:RowIn w a len cap zs)(hR:SlOf 3 RNod w aR raw)(fR:Fit raw.length):
  Calls Tryz.prog 6 #[.slice a len cap,.agg #[.slice aR raw.length cR],.int .i64 node,.string (bs pn),.string (bs cn)] w (Grows w (.bool true)):=by
 have H:=Lib.hid h
 have HR:=Lib.hid hR
 obtain⟨nR,hnR⟩:∃N:Nat,Hid (raw.length=N):=⟨_,Lib.hid rfl⟩
 have SM:=fun W (hW:SlOf 3 RNod W aR raw)=>small_any raw aR cR W hW fR
 rw[hnR.out] at SM fR ⊢
 have SM:=Lib.hid SM
 obtain⟨P0,hP0⟩:∃P:Ending→World→Prop,P=Grows w (.bool true):=⟨_,rfl⟩
 rw[←hP0]
 have HP0:=Lib.hid hP0
 clear h hR hP0 fR
 go_enter Tryz.func6,Tryz.ntmps6
 go_wp2_with fail
 have RX6:=Lib.hid (Row.new w #[.slice aR nR cR] 31)
 obtain⟨W1,hW1⟩:∃W:World,Hid (W=w.alloc (.cells #[.slice aR nR cR] 31)):=⟨_,Lib.hid rfl⟩
 rw[←hW1.out] at RX6 ⊢
 have G1:Hid (Gr w W1):=Lib.hid (by rw[hW1.out];exact(Gr.refl _).alloc _)
 obtain⟨P6,hP6⟩:∃N:Nat,Hid (w.heap.size=N):=⟨_,Lib.hid rfl⟩
 rw[hP6.out] at RX6 ⊢
 clear hW1
 refine(SM.out W1 (HR.out.gr RNod.mono G1.out)).mono ?_
 rintro e w1 ⟨b0,rfl,hsm,hg⟩
 have G2:=Lib.hid (G1.out.trans hg)
 have RX6b:=Lib.hid (RX6.out.gr hg)
 have HSM:=Lib.hid hsm
 clear hg hsm RX6 SM
 cases b0 with
 |false=>
  go_wp2_with fail
  refine(awake12_any w1).mono ?_
  rintro e w9 ⟨rfl,hg9⟩
  go_wp2_with fail
  rw[HP0.out]
  exact⟨rfl,G2.out.trans hg9⟩
 |true=>
  have R400:=Lib.hid (HSM.out rfl)
  go_wp2_with fail
  refine(newTape_any w1 a len cap zs (RowIn_gr H.out G2.out)).mono ?_
  rintro e w2 ⟨b,n0,rfl,ht,hg,hb,_⟩
  have TP:=Lib.hid (show Tp w2 b n0 from⟨0,ht⟩)
  have G3:=Lib.hid (G2.out.trans hg)
  have BW:Hid (w.heap.size≤b):=Lib.hid (Nat.le_trans G2.out.size hb)
  have B6:Hid (P6≠b):=Lib.hid (by have:=RX6b.out.has;unfold Has at this;omega)
  have R6:=Lib.hid (RX6b.out.gr hg)
  have BH:Hid (b<w2.heap.size):=Lib.hid TP.out.has
  clear ht hg hb RX6b
  go_wp2_with fail
  refine(links_any b n0 w2 TP.out).mono ?_
  rintro e w3 ⟨v,ms,rfl,htr,hvl,hml,hmv⟩
  obtain⟨va,vc,rfl⟩:=owns_slice htr.own
  have hpos:=hvl.pos
  rw[List.length_map] at hpos
  obtain⟨n,hn⟩:∃N:Nat,Hid (ms.length=N):=⟨_,Lib.hid rfl⟩
  rw[hn.out] at htr hml hpos
  have M3:=Lib.hid hmv
  have TR3:=Lib.hid htr
  have VLL:=Lib.hid hvl
  have N9:=Lib.hid (And.intro hml hpos)
  rw[hn.out]
  clear htr hvl hml hmv hpos
  go_upto_region 5 with(fail)
  have RX12:=Lib.hid (Row.new w3 #[.slice va n vc] 31)
  obtain⟨w4,hw4⟩:∃W:World,Hid (W=w3.alloc (.cells #[.slice va n vc] 31)):=⟨_,Lib.hid rfl⟩
  have g4:Gr w3 w4:=by rw[hw4.out];exact(Gr.refl _).alloc _
  rw[←hw4.out] at RX12 ⊢
  obtain⟨P12,hP12⟩:∃N:Nat,Hid (w3.heap.size=N):=⟨_,Lib.hid rfl⟩
  have B12:Hid (P12≠b):=Lib.hid (by rw[←hP12.out];have:=M3.out.size;have:=BH.out;omega)
  rw[hP12.out] at RX12 ⊢
  have M4:=Lib.hid (M3.out.gr g4)
  have TR4:=Lib.hid (TR3.out.gr g4)
  have TP4:=Lib.hid (M4.out.tp TP.out)
  have R64:=Lib.hid ((M4.out.row R6.out B6.out))
  clear hw4 hP12 g4
  refine wp_code_eq (c:=Code.region 5 (regIn 5 Tryz.f6) true) (by kernel_rfl) (la5 TP4.out R64.out RX12.out B6.out B12.out TR4.out BH.out VLL.out hn.out N9.out.2 (by have:=N9.out.1;omega) ?_)
  intro B t47 t48 t49 t50 t51 w5 h5
  unfold la5A
  obtain⟨vB,mb,hrb,htb,hlb,hm5,hsz⟩:=h5
  obtain⟨xa,xc,rfl⟩:=owns_slice htb.own
  have BNE:Hid (B≠b):=Lib.hid (by have:=M4.out.size;have:=BH.out;omega)
  have M5:=Lib.hid (M4.out.trans BH.out hm5)
  have TP5:=Lib.hid (hm5.tp TP4.out)
  have BH5:Hid (b<w5.heap.size):=Lib.hid TP5.out.has
  obtain⟨L3,hL3⟩:∃L:List TM,L= [⟨aR,cR,raw⟩,⟨va,vc,ms.map NM.n⟩,⟨xa,xc,mb.map NM.n⟩]:=⟨_,rfl⟩
  have RB:Hid (Row w5 B 31 (L3.map TM.v)):=Lib.hid (by
   rw[hL3]
   simp only[List.map_cons,List.map_nil,TM.v,List.length_map]
   rw[hnR.out,hn.out]
   exact hrb)
  have L33:Hid (L3.length=3):=Lib.hid (by rw[hL3];rfl)
  have RD:Hid (∀W,Mv b n0 w5 W→∀t∈L3,SlOf 3 RNod W t.a t.ts∧t.ts.length≤400):=Lib.hid (fun W hW t ht=>by
   rw[hL3] at ht
   simp only[List.mem_cons,List.not_mem_nil,or_false] at ht
   rcases ht with rfl|rfl|rfl
   ·exact⟨HR.out.gr RNod.mono ((M5.out.trans BH.out hW).out G3.out BW.out),by show raw.length≤400;rw[hnR.out];exact R400.out⟩
   ·exact⟨(((TR4.out.mv BH.out hm5).mv BH.out hW)).sl.2,by simp only[List.length_map];rw[hn.out];have:=N9.out.1;omega⟩
   ·exact⟨(htb.mv (by have:=M4.out.size;have:=BH.out;omega) hW).sl.2,by simp only[List.length_map];omega⟩)
  clear hrb htb hlb hm5 hsz hL3 TR3 TR4 VLL M3 R6 R64 RX12 HR H
  go_wp2_with fail
  go_loopw [54] (fun s wr=>∃i:Nat,i≤3∧s= .int .i64 (i:Int)∧Mv b n0 w5 wr) (fun s _=>3-(intOf s).toNat)
  case atStart=>exact⟨0,Nat.zero_le _,rfl,by first|exact Mv.refl TP5.out|exact Mv.of_gr TP5.out ((Gr.refl _).drewN _)⟩
  case round=>
   obtain⟨i,hi,rfl,hm⟩:=hrel
   have MA:=Lib.hid hm
   clear hm
   by_cases hi3:i<3
   ·have il:i<L3.length:=by rw[L33.out];exact hi3
    have tc0:=(MA.out.row RB.out BNE.out).cell i (by rw[List.length_map];exact il)
    rw[List.getElem_map] at tc0
    obtain⟨t,ht⟩:∃t,L3[i]=t:=⟨_,rfl⟩
    have TMEM:Hid (t∈L3):=Lib.hid (by rw[←ht];exact List.getElem_mem il)
    rw[ht] at tc0
    obtain⟨ta,tc,ts⟩:=t
    obtain⟨tl,htl⟩:∃N:Nat,Hid (ts.length=N):=⟨_,Lib.hid rfl⟩
    have tc1:wr.cell? ⟨B,i,none⟩=some (.slice ta tl tc):=by rw[←htl.out];exact tc0
    clear tc0
    have T400:Hid (ts.length≤400):=Lib.hid (RD.out wr MA.out _ TMEM.out).2
    have SLT:Hid (∀W,Mv b n0 w5 W→SlOf 3 RNod W ta ts):=Lib.hid (fun W hW=>(RD.out W hW _ TMEM.out).1)
    have ii:(i:Int)<3:=by omega
    have HI:=Lib.hid hi3
    have htc:=has_of_cell tc1
    clear ht il hi3 hi
    go_upto_region 8 with(fail)
    have RX14:=Lib.hid (Row.new wr #[.slice ta tl tc] 31)
    obtain⟨w7,hw7⟩:∃W:World,Hid (W=wr.alloc (.cells #[.slice ta tl tc] 31)):=⟨_,Lib.hid rfl⟩
    have g7:Gr wr w7:=by rw[hw7.out];exact(Gr.refl _).alloc _
    rw[←hw7.out] at RX14 ⊢
    obtain⟨P14,hP14⟩:∃N:Nat,Hid (wr.heap.size=N):=⟨_,Lib.hid rfl⟩
    have B14:Hid (P14≠b):=Lib.hid (by rw[←hP14.out];have:=MA.out.size;have:=BH5.out;omega)
    rw[hP14.out] at RX14 ⊢
    have M7:=Lib.hid (MA.out.gr g7)
    clear hw7 hP14 g7 tc1 htc
    go_wp2_with fail
    refine(property_any w7 b n0 (M7.out.tp TP5.out)).mono ?_
    rintro e w8 ⟨s,hs,rfl,hm8⟩
    have M8:=Lib.hid (M7.out.trans BH5.out hm8)
    have R14:=Lib.hid (hm8.row RX14.out B14.out)
    clear hm8 hs RX14
    go_wp2_with fail
    have RP0:=Lib.hid (Row.new w8 #[.string (bs [99,108,111,99,107,115]),.string (bs [35,99,101,108,108,115]),.string (bs pn),.string (bs cn),.string (bs [99,108,111,99,107,115]),.string (bs [110,111,110,101]),.string (bs s),.string (bs [35,99,101,108,108,115])] 62)
    obtain⟨w9,hw9⟩:∃W:World,Hid (W=w8.alloc (.cells #[.string (bs [99,108,111,99,107,115]),.string (bs [35,99,101,108,108,115]),.string (bs pn),.string (bs cn),.string (bs [99,108,111,99,107,115]),.string (bs [110,111,110,101]),.string (bs s),.string (bs [35,99,101,108,108,115])] 62)):=⟨_,Lib.hid rfl⟩
    have g9:Gr w8 w9:=by rw[hw9.out];exact(Gr.refl _).alloc _
    refine wp_world_eq hw9.out.symm ?_
    rw[←hw9.out] at RP0
    obtain⟨PP,hPP⟩:∃N:Nat,Hid (w8.heap.size=N):=⟨_,Lib.hid rfl⟩
    have BP:Hid (PP≠b):=Lib.hid (by rw[←hPP.out];have:=M8.out.size;have:=BH5.out;omega)
    rw[hPP.out] at RP0 ⊢
    have M9:=Lib.hid (M8.out.gr g9)
    have TP9:=Lib.hid (M9.out.tp TP5.out)
    have RX9:=Lib.hid (R14.out.gr g9)
    obtain⟨LP,hLP⟩:∃L:List (St×St),L= [([99,108,111,99,107,115],[35,99,101,108,108,115]),(pn,cn),([99,108,111,99,107,115],[110,111,110,101]),(s,[35,99,101,108,108,115])]:=⟨_,rfl⟩
    have RP:Hid (Row w9 PP 62 (LP.flatMap encQ)):=Lib.hid (by rw[hLP];exact RP0.out)
    have LP4:Hid (LP.length=4):=Lib.hid (by rw[hLP];rfl)
    have SLM:Hid (∀W,Mv b n0 w9 W→SlOf 3 RNod W ta ts):=Lib.hid (fun W hW=>SLT.out W (M9.out.trans BH5.out hW))
    clear hw9 hPP g9 hLP RP0
    refine wp_code_eq (c:=codeIn 2 Tryz.f6) (by kernel_rfl) (an2 TP9 RX9 B14 RP BP LP4 SLM htl T400 ?_)
    intros
    rename_i wx hmx
    have MX:=Lib.hid (M9.out.trans BH5.out hmx)
    clear hmx
    go_wp2_with fail
    go_roundw
    case rel=>exact⟨i+1,by have:=HI.out;omega,by go_num,MX.out⟩
    case measure=>simp[intOf];have:=HI.out;omega
   ·obtain rfl:i=3:=by omega
    have GF:Hid (Gr w wr):=Lib.hid ((M5.out.trans BH.out MA.out).out G3.out BW.out)
    go_wp2_with fail
    refine(awake12_any wr).mono ?_
    rintro e w9 ⟨rfl,hg9⟩
    go_wp2_with fail
    rw[HP0.out]
    exact⟨rfl,GF.out.trans hg9⟩
end Go.Proofs.YtdjhnfopdlgliaaGreat
namespace Go.Proofs.YtdjhnfopdlgliaaGreat
open Go.RowKit Go.ChangeShapes Go.WideShapes
theorem add_of{a:Addr}{w:World}{v:Value}{n:Nat}(h0:a=⟨a.block,a.off,none⟩)(h:w.cell? (a.add n)=some v):w.cell? ⟨a.block,a.off+n,none⟩=some v:=by
 simp only[Addr.add] at h
 split at h
 ·rename_i e;subst e;rw[h0] at h;simpa using h
 ·exact h
def Light{H:Type}(t:TypeId)(d:DataW H):Prop:=∀n∈d.weights Tryz.prog t,n≤reachBytes
theorem all_light{H:Type}{e:TypeId}:∀{l:List (DataW H)} {d:DataW H},d∈l→∀n∈d.weights Tryz.prog e,n∈DataW.weightsAll Tryz.prog e l
 |d'::r,d,hd,n,hn=>by
  simp only[DataW.weightsAll,List.mem_append]
  rcases List.mem_cons.1 hd with rfl|h
  ·exact Or.inl hn
  ·exact Or.inr (all_light h n hn)
theorem Light.elem{H:Type}{t e:TypeId}{elems spare:List (DataW H)}(h:Light t (DataW.slice elems spare))(hu:Tryz.prog.underlying t=some (.slice e)):(elems.length+spare.length)*Tryz.prog.bytesOf e≤reachBytes∧∀d∈elems,Light e d:=by
 refine⟨h _ (by simp[DataW.weights,hu]),fun d hd n hn=>h n ?_⟩
 simp only[DataW.weights,hu,List.mem_cons,List.mem_append]
 exact Or.inr (Or.inl (all_light hd n hn))
theorem Light.part{H:Type}{t:TypeId}{fs:Array Field}{parts:List (DataW H)}(h:Light t (DataW.agg parts))(hu:Tryz.prog.underlying t=some (.struct fs)){j:Nat}{u:TypeId}{d:DataW H}(ht:(fs.toList.map (·.type))[j]?=some u)(hd:parts[j]?=some d):Light u d:=fun n hn=>h n (by
 simp only[DataW.weights,hu]
 exact DataW.weights_mem_each ht hd n hn)
theorem reach_eq:reachBytes=140737488351232:=rfl
theorem open_num{H:Type}{enc:TypeId×Value→H}{W:World}{n:Nat}{v:Value}{y:DataW H×List MemPlace}(h:DataW.trod enc Tryz.prog W 0 (fun _=>true) true n 3 [v]=some y):∃x,v= .int .i64 x∧Wide x:=by
 obtain⟨n0,e0, -,w0⟩:=DataW.trod_int Tryz.underlying3 h
 have b0:=bounds_i64 w0
 exact⟨n0,by simpa using e0,by unfold Wide;omega⟩
theorem open_txt{H:Type}{enc:TypeId×Value→H}{W:World}{n:Nat}{v:Value}{y:DataW H×List MemPlace}(h:DataW.trod enc Tryz.prog W 0 (fun _=>true) true n 9 [v]=some y):∃s:St,v= .string (bs s)∧s.length≤9223372036854775807:=by
 obtain⟨s,e, -,hs⟩:=DataW.trod_string Tryz.underlying9 h
 refine⟨s.data.toList,by
  have:v= .string s:=by simpa using e
  rw[this];unfold bs;simp,?_⟩
 have:s.size≤maxLen:=hs
 unfold maxLen at this
 have e2:s.data.toList.length=s.size:=by simp
 omega
def PrpIn(p:Prp)(cs:List Value):Prop:=cs= [.string (bs p.name),.string (bs p.val)]∧p.name.length≤9223372036854775807∧p.val.length≤9223372036854775807
theorem open_prp{H:Type}{enc:TypeId×Value→H}{W:World}{n:Nat}{cs:List Value}{x:DataW H×List MemPlace}(h:DataW.trod enc Tryz.prog W 0 (fun _=>true) true n 89 cs=some x):∃p:Prp,PrpIn p cs:=by
 obtain⟨xs,m,_,rfl,hlen,hxs,hf⟩:=DataW.trod_struct Tryz.underlying89 h
 have hl2:cs.length=2:=hlen
 match cs,hl2,xs,hxs with
 | [v0,v1],_,[y0,y1],_=>
  have g0:DataW.trod enc Tryz.prog W 0 (fun _=>true) true m 9 [v0]=some y0:=hf 0 _ rfl
  have g1:DataW.trod enc Tryz.prog W 0 (fun _=>true) true m 9 [v1]=some y1:=hf 1 _ rfl
  obtain⟨s0,rfl,w0⟩:=open_txt g0
  obtain⟨s1,rfl,w1⟩:=open_txt g1
  exact⟨⟨s0,s1⟩,rfl,w0,w1⟩
instance:Inhabited Prp:=⟨⟨[],[]⟩⟩
theorem open_prps{H:Type}{enc:TypeId×Value→H}{W:World}{fuel:Nat}{cs:List Value}{x:DataW H×List MemPlace}(h:DataW.trod enc Tryz.prog W 0 (fun _=>true) true fuel 53 cs=some x)(hl:Light 53 x.1):
  ∃(a:Option Addr) (raw:List Prp) (cap:Nat),cs= [.slice a raw.length cap]∧raw.length≤cap∧Fit raw.length∧SlOf 2 RPrp W a raw:=by
 rcases Go.Deep.open_slice Tryz.underlying53 h with⟨rfl, -⟩|⟨a,len,cap,m,n,D,Pl,rfl,hb,hle,hm,hmm,rfl,hx⟩
 ·exact⟨none,[],0,rfl,Nat.le_refl _,by unfold Fit;simp,fun k hk=>absurd hk (by simp)⟩
 ·have hmc:m=cap:=by simpa using hmm
  obtain⟨hsz,hel⟩:=hl.elem Tryz.underlying53
  have each:∀i,i<len→∃c:Prp,∃ds,PrpIn c ds∧∀j,j<2→W.cell? ((a.add (i*2)).add j)=ds[j]?:=by
   intro i hi
   obtain⟨cs',h1,h2⟩:=hx i (by omega)
   obtain⟨c,hc⟩:=open_prp h2
   have h1':W.cells? 0 (a.add (i*2)) 2=some cs':=h1
   obtain⟨_, -,hc'⟩:=World.cells?_some h1'
   exact⟨c,cs',hc,hc'⟩
  obtain⟨f,hf⟩:=Go.Deep.choose_lt each
  refine⟨some a,(List.range len).map f,cap,by simp,by simpa using hle,?_,fun k hk=>?_⟩
  ·rw[reach_eq,show Tryz.prog.bytesOf 89=32 by kernel_rfl] at hsz
   simp at hsz
   simp only[List.length_map,List.length_range]
   unfold Fit;omega
  have hk':k<len:=by simpa using hk
  obtain⟨ds,⟨rfl,w0,w1⟩,hc⟩:=hf k hk'
  have c0:=hc 0 (by omega)
  have c1:=hc 1 (by omega)
  rw[Go.Deep.add_add] at c0 c1
  have z:a=⟨a.block,a.off,none⟩:=by
   obtain⟨ds',⟨rfl,_⟩,hc'⟩:=hf 0 (by omega)
   have q:=hc' 0 (by omega)
   rw[Go.Deep.add_add] at q
   have q':W.cell? a=some (.string (bs (f 0).name)):=by simpa [Addr.add] using q
   exact addr_of_cell q'
  refine⟨a.block,a.off,by rw[←z],?_⟩
  rw[List.getElem_map,List.getElem_range]
  exact⟨⟨add_of z (by simpa using c0),w0⟩,⟨add_of z (by simpa using c1),w1⟩⟩
def NodIn(W:World)(c:Nod)(cs:List Value):Prop:=∃ap cp,cs= [.int .i64 c.parent,.string (bs c.name),.slice ap c.props.length cp]∧Wide c.parent∧c.name.length≤9223372036854775807∧c.props.length≤cp∧Fit c.props.length∧SlOf 2 RPrp W ap c.props
theorem open_nod{H:Type}{enc:TypeId×Value→H}{W:World}{n:Nat}{cs:List Value}{x:DataW H×List MemPlace}(h:DataW.trod enc Tryz.prog W 0 (fun _=>true) true n 55 cs=some x)(hl:Light 55 x.1):∃c:Nod,NodIn W c cs:=by
 obtain⟨xs,m,_,rfl,hlen,hxs,hf⟩:=DataW.trod_struct Tryz.underlying55 h
 have hl3:cs.length=3:=hlen
 match cs,hl3,xs,hxs with
 | [v0,v1,v2],_,[y0,y1,y2],_=>
  have g0:DataW.trod enc Tryz.prog W 0 (fun _=>true) true m 3 [v0]=some y0:=hf 0 _ rfl
  have g1:DataW.trod enc Tryz.prog W 0 (fun _=>true) true m 9 [v1]=some y1:=hf 1 _ rfl
  have g2:DataW.trod enc Tryz.prog W 0 (fun _=>true) true m 53 [v2]=some y2:=hf 2 _ rfl
  have l2:Light 53 y2.1:=Light.part (j:=2) hl Tryz.underlying55 rfl rfl
  obtain⟨k,rfl,w0⟩:=open_num g0
  obtain⟨s,rfl,w1⟩:=open_txt g1
  obtain⟨ap,ps,cp,e1,p1,p2,p3⟩:=open_prps g2 l2
  injection e1 with e1 _
  subst e1
  exact⟨⟨k,s,ps⟩,ap,cp,rfl,w0,w1,p1,p2,p3⟩
instance:Inhabited Nod:=⟨⟨0,[],[]⟩⟩
theorem open_nods{H:Type}{enc:TypeId×Value→H}{W:World}{fuel:Nat}{cs:List Value}{x:DataW H×List MemPlace}(h:DataW.trod enc Tryz.prog W 0 (fun _=>true) true fuel 29 cs=some x)(hl:Light 29 x.1):
  ∃(a:Option Addr) (raw:Tr) (cap:Nat),cs= [.slice a raw.length cap]∧raw.length≤cap∧Fit raw.length∧SlOf 3 RNod W a raw:=by
 rcases Go.Deep.open_slice Tryz.underlying29 h with⟨rfl, -⟩|⟨a,len,cap,m,n,D,Pl,rfl,hb,hle,hm,hmm,rfl,hx⟩
 ·exact⟨none,[],0,rfl,Nat.le_refl _,by unfold Fit;simp,fun k hk=>absurd hk (by simp)⟩
 ·have hmc:m=cap:=by simpa using hmm
  obtain⟨hsz,hel⟩:=hl.elem Tryz.underlying29
  have each:∀i,i<len→∃c:Nod,∃ds,NodIn W c ds∧∀j,j<3→W.cell? ((a.add (i*3)).add j)=ds[j]?:=by
   intro i hi
   obtain⟨cs',h1,h2⟩:=hx i (by omega)
   obtain⟨c,hc⟩:=open_nod h2 (hel _ (List.mem_map.2 ⟨i,List.mem_range.2 hi,rfl⟩))
   have h1':W.cells? 0 (a.add (i*3)) 3=some cs':=h1
   obtain⟨_, -,hc'⟩:=World.cells?_some h1'
   exact⟨c,cs',hc,hc'⟩
  obtain⟨f,hf⟩:=Go.Deep.choose_lt each
  refine⟨some a,(List.range len).map f,cap,by simp,by simpa using hle,?_,fun k hk=>?_⟩
  ·rw[reach_eq,show Tryz.prog.bytesOf 55=48 by kernel_rfl] at hsz
   simp at hsz
   simp only[List.length_map,List.length_range]
   unfold Fit;omega
  have hk':k<len:=by simpa using hk
  obtain⟨ds,⟨ap,cp,rfl,w0,w1,p1,p2,p3⟩,hc⟩:=hf k hk'
  have c0:=hc 0 (by omega)
  have c1:=hc 1 (by omega)
  have c2:=hc 2 (by omega)
  rw[Go.Deep.add_add] at c0 c1 c2
  have z:a=⟨a.block,a.off,none⟩:=by
   obtain⟨ds',⟨_,_,rfl,_⟩,hc'⟩:=hf 0 (by omega)
   have q:=hc' 0 (by omega)
   rw[Go.Deep.add_add] at q
   have q':W.cell? a=some (.int .i64 (f 0).parent):=by simpa [Addr.add] using q
   exact addr_of_cell q'
  refine⟨a.block,a.off,by rw[←z],?_⟩
  rw[List.getElem_map,List.getElem_range]
  exact⟨⟨add_of z (by simpa using c0),w0⟩,⟨add_of z (by simpa using c1),w1⟩,ap,cp,add_of z (by simpa using c2),p1,p2,p3⟩
theorem open_tree{H:Type}{enc:TypeId×Value→H}{W:World}{n:Nat}{cs:List Value}{x:DataW H×List MemPlace}(h:DataW.trod enc Tryz.prog W 0 (fun _=>true) true n 31 cs=some x)(hl:Light 31 x.1):
  ∃(a:Option Addr) (raw:Tr) (cap:Nat),cs= [.slice a raw.length cap]∧raw.length≤cap∧Fit raw.length∧SlOf 3 RNod W a raw:=by
 obtain⟨xs,m,_,rfl,hlen,hxs,hf⟩:=DataW.trod_struct Tryz.underlying31 h
 have hl1:cs.length=1:=hlen
 match cs,hl1,xs,hxs with
 | [v0],_,[y0],_=>
  have g0:DataW.trod enc Tryz.prog W 0 (fun _=>true) true m 29 [v0]=some y0:=hf 0 _ rfl
  have l0:Light 29 y0.1:=Light.part (j:=0) hl Tryz.underlying31 rfl rfl
  exact open_nods g0 l0
end Go.Proofs.YtdjhnfopdlgliaaGreat
