/- Lemmas and contracts for the proof of LinkAnswers (several texts in one, printed by wip/tools/pack.py): LpB. -/
import Derived.Test.YtdjhnfopdlgliaaGreatLa1ps
set_option maxRecDepth 100000
set_option maxHeartbeats 16000000
set_option linter.unusedVariables false
set_option linter.unusedSimpArgs false
namespace Go.Proofs.YtdjhnfopdlgliaaGreat
open Go.RowKit
open Classical
def lk8F(wr:World)(g k:Nat)(pa:Option Addr)(pc:Nat)(ps:List Prp)(t32 t33 t34 t35 t36 t37 t38 t39 t40 t41 t42 t43:Value)(d:Array Bool)(w:World):Prop:=
 (d.getD 12 false=false→Gr wr w)∧(d.getD 0 false=true→t32= .pointer (some ⟨g,k*3,none⟩))∧
 (d.getD 1 false=true→t33= .pointer (some ⟨g,k*3,none⟩))∧
 (d.getD 2 false=true→t34= .pointer (some ⟨g,k*3,none⟩))∧
 (d.getD 3 false=true→t35= .pointer (some ⟨g,k*3+2,none⟩))∧
 (d.getD 4 false=true→t36= .slice pa ps.length pc)∧
 (d.getD 5 false=true→t37= .int .i64 (k:Int))∧
 (d.getD 6 false=true→t38= .int .i64 ((10+k:Nat):Int))∧
 (d.getD 7 false=true→∃B,t39= .slice (some ⟨B,0,none⟩) 1 1∧(d.getD 12 false=false→Row w B 3 (nums [((10+k:Nat):Int)])))∧
 (d.getD 8 false=true→t40= .string (bs (cellsS [10+k])))∧
 (d.getD 9 false=true→(d.getD 12 false=false→(∃x c,t41= .slice x (putP ps ⟨[112,104,97,110,100,108,101],cellsS [10+k]⟩).length c∧w.ownsRow wr.heap.size 89 2 (.slice x (putP ps ⟨[112,104,97,110,100,108,101],cellsS [10+k]⟩).length c) (putP ps ⟨[112,104,97,110,100,108,101],cellsS [10+k]⟩).length ((putP ps ⟨[112,104,97,110,100,108,101],cellsS [10+k]⟩).flatMap encP))))∧
 (d.getD 10 false=true→t42= .pointer (some ⟨g,k*3,none⟩))∧
 (d.getD 11 false=true→t43= .pointer (some ⟨g,k*3+2,none⟩))∧
 (d.getD 12 false=true→((∀j,j<12→j≠10→d.getD j false=true)∧Fin7 wr g k (putP ps ⟨[112,104,97,110,100,108,101],cellsS [10+k]⟩) w))
def lk8A(g k:Nat)(t32 t33 t34 t35 t36 t37 t38 t39 t40 t41 t42 t43 s0 s1 s2 s3 s4 s7 s8 s9 s10 s11 s12 s13 s14 s15 s16 s17 s18 s19 s20 s21 s22 s23 s24 s25 s26 s27 s28 s29 s30 s31 s44 s45 s46 s47 s48 s49 s50 s51 s52 s53 s54 s55 s56 s57 s58 s59 s60 s61 s62 s63 s64 s65 s66 s67 s68 s69 s70 s71 s72 s73 s74 s75 s76 s77 s78 s79 s80 s81 s82 s83 s84 s85 s86 s87 s88 s89 s90 s91 s92 s93 s94 s95 s96 s97 s98 s99 s100 s101 s102 s103 s104 s105 s106 s107 s108 s109 s110 s111 s112 s113 s114 s115 s116 s117 s118 s119 s120 s121 s122 s123 s124 s125 s126 s127 s128 s129 s130 s131 s132 s133 s134 s135 s136 s137 s138 s139 s140 s141 s142 s143 s144 s145 s146 s147:Value):Act:={tmps:= #[s0,s1,s2,s3,s4,.int .i64 (k:Int),.pointer (some ⟨g,k*3,none⟩),s7,s8,s9,s10,s11,s12,s13,s14,s15,s16,s17,s18,s19,s20,s21,s22,s23,s24,s25,s26,s27,s28,s29,s30,s31,t32,t33,t34,t35,t36,t37,t38,t39,t40,t41,t42,t43,s44,s45,s46,s47,s48,s49,s50,s51,s52,s53,s54,s55,s56,s57,s58,s59,s60,s61,s62,s63,s64,s65,s66,s67,s68,s69,s70,s71,s72,s73,s74,s75,s76,s77,s78,s79,s80,s81,s82,s83,s84,s85,s86,s87,s88,s89,s90,s91,s92,s93,s94,s95,s96,s97,s98,s99,s100,s101,s102,s103,s104,s105,s106,s107,s108,s109,s110,s111,s112,s113,s114,s115,s116,s117,s118,s119,s120,s121,s122,s123,s124,s125,s126,s127,s128,s129,s130,s131,s132,s133,s134,s135,s136,s137,s138,s139,s140,s141,s142,s143,s144,s145,s146,s147],defers:= []}
theorem lk8{Q:Exit→Act→World→Prop}{wr:World}{g k:Nat}{pa:Option Addr}{pc:Nat}{ps:List Prp}{s0 s1 s2 s3 s4 s7 s8 s9 s10 s11 s12 s13 s14 s15 s16 s17 s18 s19 s20 s21 s22 s23 s24 s25 s26 s27 s28 s29 s30 s31 s32 s33 s34 s35 s36 s37 s38 s39 s40 s41 s42 s43 s44 s45 s46 s47 s48 s49 s50 s51 s52 s53 s54 s55 s56 s57 s58 s59 s60 s61 s62 s63 s64 s65 s66 s67 s68 s69 s70 s71 s72 s73 s74 s75 s76 s77 s78 s79 s80 s81 s82 s83 s84 s85 s86 s87 s88 s89 s90 s91 s92 s93 s94 s95 s96 s97 s98 s99 s100 s101 s102 s103 s104 s105 s106 s107 s108 s109 s110 s111 s112 s113 s114 s115 s116 s117 s118 s119 s120 s121 s122 s123 s124 s125 s126 s127 s128 s129 s130 s131 s132 s133 s134 s135 s136 s137 s138 s139 s140 s141 s142 s143 s144 s145 s146 s147:Value}(hk:k≤1000)(hc:wr.cell? ⟨g,k*3+2,none⟩=some (.slice pa ps.length pc))(hfr:∀W,Gr wr W→W.frozen? ⟨g,k*3+2,none⟩=false)(hsl:SlOf 2 RPrp wr pa ps)(hb:ps.length≤1000∧(∀q∈ps,q.name.length≤1000∧q.val.length≤100000)∧ps.length≤pc)
  (h':∀t32 t33 t34 t35 t36 t37 t38 t39 t40 t41 t42 t43 wx,Fin7 wr g k (putP ps ⟨[112,104,97,110,100,108,101],cellsS [10+k]⟩) wx→Q .normal (lk8A g k t32 t33 t34 t35 t36 t37 t38 t39 t40 t41 t42 t43 s0 s1 s2 s3 s4 s7 s8 s9 s10 s11 s12 s13 s14 s15 s16 s17 s18 s19 s20 s21 s22 s23 s24 s25 s26 s27 s28 s29 s30 s31 s44 s45 s46 s47 s48 s49 s50 s51 s52 s53 s54 s55 s56 s57 s58 s59 s60 s61 s62 s63 s64 s65 s66 s67 s68 s69 s70 s71 s72 s73 s74 s75 s76 s77 s78 s79 s80 s81 s82 s83 s84 s85 s86 s87 s88 s89 s90 s91 s92 s93 s94 s95 s96 s97 s98 s99 s100 s101 s102 s103 s104 s105 s106 s107 s108 s109 s110 s111 s112 s113 s114 s115 s116 s117 s118 s119 s120 s121 s122 s123 s124 s125 s126 s127 s128 s129 s130 s131 s132 s133 s134 s135 s136 s137 s138 s139 s140 s141 s142 s143 s144 s145 s146 s147) wx):
  (Code.region 8 (regIn 8 Tryz.f12) true).wp Tryz.prog Q {tmps:= #[s0,s1,s2,s3,s4,.int .i64 (k:Int),.pointer (some ⟨g,k*3,none⟩),s7,s8,s9,s10,s11,s12,s13,s14,s15,s16,s17,s18,s19,s20,s21,s22,s23,s24,s25,s26,s27,s28,s29,s30,s31,s32,s33,s34,s35,s36,s37,s38,s39,s40,s41,s42,s43,s44,s45,s46,s47,s48,s49,s50,s51,s52,s53,s54,s55,s56,s57,s58,s59,s60,s61,s62,s63,s64,s65,s66,s67,s68,s69,s70,s71,s72,s73,s74,s75,s76,s77,s78,s79,s80,s81,s82,s83,s84,s85,s86,s87,s88,s89,s90,s91,s92,s93,s94,s95,s96,s97,s98,s99,s100,s101,s102,s103,s104,s105,s106,s107,s108,s109,s110,s111,s112,s113,s114,s115,s116,s117,s118,s119,s120,s121,s122,s123,s124,s125,s126,s127,s128,s129,s130,s131,s132,s133,s134,s135,s136,s137,s138,s139,s140,s141,s142,s143,s144,s145,s146,s147],defers:= []} wr:=by
 have HK0:=PLift.up hk
 have HC:=PLift.up hc
 have HFR:=PLift.up hfr
 have HSL:=PLift.up hsl
 have HB:=PLift.up hb
 have W10:=PLift.up (show IntKind.i64.wrap ((10:Int)+(k:Int))=((10+k:Nat):Int) by rw[Go.IntWalk.i64_in _ (by omega)];omega)
 clear hk hc hfr hsl hb
 simp only[regIn,Tryz.f12,regOps,Option.bind_some,Option.getD_some,Nat.beq,cond_true,cond_false]
 refine wp_region_steps (fun done a w=>∃t32 t33 t34 t35 t36 t37 t38 t39 t40 t41 t42 t43,a=lk8A g k t32 t33 t34 t35 t36 t37 t38 t39 t40 t41 t42 t43 s0 s1 s2 s3 s4 s7 s8 s9 s10 s11 s12 s13 s14 s15 s16 s17 s18 s19 s20 s21 s22 s23 s24 s25 s26 s27 s28 s29 s30 s31 s44 s45 s46 s47 s48 s49 s50 s51 s52 s53 s54 s55 s56 s57 s58 s59 s60 s61 s62 s63 s64 s65 s66 s67 s68 s69 s70 s71 s72 s73 s74 s75 s76 s77 s78 s79 s80 s81 s82 s83 s84 s85 s86 s87 s88 s89 s90 s91 s92 s93 s94 s95 s96 s97 s98 s99 s100 s101 s102 s103 s104 s105 s106 s107 s108 s109 s110 s111 s112 s113 s114 s115 s116 s117 s118 s119 s120 s121 s122 s123 s124 s125 s126 s127 s128 s129 s130 s131 s132 s133 s134 s135 s136 s137 s138 s139 s140 s141 s142 s143 s144 s145 s146 s147∧lk8F wr g k pa pc ps t32 t33 t34 t35 t36 t37 t38 t39 t40 t41 t42 t43 done w) (by kernel_rfl) (by kernel_rfl) ?_ ⟨?_,?_,?_,?_,?_,?_,?_,?_,?_,?_,?_,?_,?_,trivial⟩ ?_
 ·exact⟨s32,s33,s34,s35,s36,s37,s38,s39,s40,s41,s42,s43,rfl,fun _=>(Gr.refl _).drew,fun q=>absurd q (by decide),fun q=>absurd q (by decide),fun q=>absurd q (by decide),fun q=>absurd q (by decide),fun q=>absurd q (by decide),fun q=>absurd q (by decide),fun q=>absurd q (by decide),fun q=>absurd q (by decide),fun q=>absurd q (by decide),fun q=>absurd q (by decide),fun q=>absurd q (by decide),fun q=>absurd q (by decide),fun q=>absurd q (by decide)⟩
 ·rintro done a w hsz hnot hdep ⟨t32,t33,t34,t35,t36,t37,t38,t39,t40,t41,t42,t43,rfl,gw,f0,f1,f2,f3,f4,f5,f6,f7,f8,f9,f10,f11,f12⟩ K hK
  have hn:¬done.getD 0 false=true:=by rw[getD_both hnot];decide
  have nL:done.getD 12 false=false:=by
   cases e:done.getD 12 false with
   |false=>rfl
   |true=>exact absurd ((f12 e).1 0 (by decide) (by decide)) hn
  replace gw:=gw nL
  have HK:=PLift.up hK
  clear hK
  simp only[lk8A]
  go_simp
  have gg:Gr w w:=Gr.refl _
  refine HK.down _ _ ⟨_,_,_,_,_,_,_,_,_,_,_,_,rfl,fun _=>gw,fun _=>rfl,kp f1,kp f2,kp f3,kp f4,kp f5,kp f6,fun q=>(let⟨B,e,h2⟩:=f7 (done_old q (by decide));⟨B,e,fun q2=>(h2 nL).gr gg⟩),kp f8,fun q q2=>(let⟨x,c,e,h⟩:=f9 (done_old q (by decide)) nL;⟨x,c,e,Gr.owns h gg⟩),kp f10,kp f11,fun q=>absurd ((f12 (done_old q (by decide))).1 0 (by decide) (by decide)) hn⟩
 ·rintro done a w hsz hnot hdep ⟨t32,t33,t34,t35,t36,t37,t38,t39,t40,t41,t42,t43,rfl,gw,f0,f1,f2,f3,f4,f5,f6,f7,f8,f9,f10,f11,f12⟩ K hK
  have hn:¬done.getD 1 false=true:=by rw[getD_both hnot];decide
  have nL:done.getD 12 false=false:=by
   cases e:done.getD 12 false with
   |false=>rfl
   |true=>exact absurd ((f12 e).1 1 (by decide) (by decide)) hn
  replace gw:=gw nL
  have HK:=PLift.up hK
  clear hK
  simp only[lk8A]
  go_simp
  have gg:Gr w w:=Gr.refl _
  refine HK.down _ _ ⟨_,_,_,_,_,_,_,_,_,_,_,_,rfl,fun _=>gw,kp f0,fun _=>rfl,kp f2,kp f3,kp f4,kp f5,kp f6,fun q=>(let⟨B,e,h2⟩:=f7 (done_old q (by decide));⟨B,e,fun q2=>(h2 nL).gr gg⟩),kp f8,fun q q2=>(let⟨x,c,e,h⟩:=f9 (done_old q (by decide)) nL;⟨x,c,e,Gr.owns h gg⟩),kp f10,kp f11,fun q=>absurd ((f12 (done_old q (by decide))).1 1 (by decide) (by decide)) hn⟩
 ·rintro done a w hsz hnot hdep ⟨t32,t33,t34,t35,t36,t37,t38,t39,t40,t41,t42,t43,rfl,gw,f0,f1,f2,f3,f4,f5,f6,f7,f8,f9,f10,f11,f12⟩ K hK
  have hn:¬done.getD 2 false=true:=by rw[getD_both hnot];decide
  have d1:=hdep 1 (by kernel_rfl)
  obtain rfl:=f1 d1
  have nL:done.getD 12 false=false:=by
   cases e:done.getD 12 false with
   |false=>rfl
   |true=>exact absurd ((f12 e).1 2 (by decide) (by decide)) hn
  replace gw:=gw nL
  have c0:=cell_gr gw HC.down
  have ch:=has_of_cell c0
  have HK:=PLift.up hK
  clear hK d1
  simp only[lk8A]
  go_simp
  have gg:Gr w w:=Gr.refl _
  refine HK.down _ _ ⟨_,_,_,_,_,_,_,_,_,_,_,_,rfl,fun _=>gw,kp f0,kp f1,fun _=>rfl,kp f3,kp f4,kp f5,kp f6,fun q=>(let⟨B,e,h2⟩:=f7 (done_old q (by decide));⟨B,e,fun q2=>(h2 nL).gr gg⟩),kp f8,fun q q2=>(let⟨x,c,e,h⟩:=f9 (done_old q (by decide)) nL;⟨x,c,e,Gr.owns h gg⟩),kp f10,kp f11,fun q=>absurd ((f12 (done_old q (by decide))).1 2 (by decide) (by decide)) hn⟩
 ·rintro done a w hsz hnot hdep ⟨t32,t33,t34,t35,t36,t37,t38,t39,t40,t41,t42,t43,rfl,gw,f0,f1,f2,f3,f4,f5,f6,f7,f8,f9,f10,f11,f12⟩ K hK
  have hn:¬done.getD 3 false=true:=by rw[getD_both hnot];decide
  have d2:=hdep 2 (by kernel_rfl)
  obtain rfl:=f2 d2
  have nL:done.getD 12 false=false:=by
   cases e:done.getD 12 false with
   |false=>rfl
   |true=>exact absurd ((f12 e).1 3 (by decide) (by decide)) hn
  replace gw:=gw nL
  have c0:=cell_gr gw HC.down
  have ch:=has_of_cell c0
  have HK:=PLift.up hK
  clear hK d2
  simp only[lk8A]
  go_simp
  have gg:Gr w w:=Gr.refl _
  refine HK.down _ _ ⟨_,_,_,_,_,_,_,_,_,_,_,_,rfl,fun _=>gw,kp f0,kp f1,kp f2,fun _=>rfl,kp f4,kp f5,kp f6,fun q=>(let⟨B,e,h2⟩:=f7 (done_old q (by decide));⟨B,e,fun q2=>(h2 nL).gr gg⟩),kp f8,fun q q2=>(let⟨x,c,e,h⟩:=f9 (done_old q (by decide)) nL;⟨x,c,e,Gr.owns h gg⟩),kp f10,kp f11,fun q=>absurd ((f12 (done_old q (by decide))).1 3 (by decide) (by decide)) hn⟩
 ·rintro done a w hsz hnot hdep ⟨t32,t33,t34,t35,t36,t37,t38,t39,t40,t41,t42,t43,rfl,gw,f0,f1,f2,f3,f4,f5,f6,f7,f8,f9,f10,f11,f12⟩ K hK
  have hn:¬done.getD 4 false=true:=by rw[getD_both hnot];decide
  have d3:=hdep 3 (by kernel_rfl)
  obtain rfl:=f3 d3
  have nL:done.getD 12 false=false:=by
   cases e:done.getD 12 false with
   |false=>rfl
   |true=>exact absurd ((f12 e).1 4 (by decide) (by decide)) hn
  replace gw:=gw nL
  have c0:=cell_gr gw HC.down
  have ch:=has_of_cell c0
  have HK:=PLift.up hK
  clear hK d3
  simp only[lk8A]
  go_simp
  have gg:Gr w w:=Gr.refl _
  refine HK.down _ _ ⟨_,_,_,_,_,_,_,_,_,_,_,_,rfl,fun _=>gw,kp f0,kp f1,kp f2,kp f3,fun _=>rfl,kp f5,kp f6,fun q=>(let⟨B,e,h2⟩:=f7 (done_old q (by decide));⟨B,e,fun q2=>(h2 nL).gr gg⟩),kp f8,fun q q2=>(let⟨x,c,e,h⟩:=f9 (done_old q (by decide)) nL;⟨x,c,e,Gr.owns h gg⟩),kp f10,kp f11,fun q=>absurd ((f12 (done_old q (by decide))).1 4 (by decide) (by decide)) hn⟩
 ·rintro done a w hsz hnot hdep ⟨t32,t33,t34,t35,t36,t37,t38,t39,t40,t41,t42,t43,rfl,gw,f0,f1,f2,f3,f4,f5,f6,f7,f8,f9,f10,f11,f12⟩ K hK
  have hn:¬done.getD 5 false=true:=by rw[getD_both hnot];decide
  have nL:done.getD 12 false=false:=by
   cases e:done.getD 12 false with
   |false=>rfl
   |true=>exact absurd ((f12 e).1 5 (by decide) (by decide)) hn
  replace gw:=gw nL
  have HK:=PLift.up hK
  clear hK
  simp only[lk8A]
  go_simp
  have gg:Gr w w:=Gr.refl _
  refine HK.down _ _ ⟨_,_,_,_,_,_,_,_,_,_,_,_,rfl,fun _=>gw,kp f0,kp f1,kp f2,kp f3,kp f4,fun _=>rfl,kp f6,fun q=>(let⟨B,e,h2⟩:=f7 (done_old q (by decide));⟨B,e,fun q2=>(h2 nL).gr gg⟩),kp f8,fun q q2=>(let⟨x,c,e,h⟩:=f9 (done_old q (by decide)) nL;⟨x,c,e,Gr.owns h gg⟩),kp f10,kp f11,fun q=>absurd ((f12 (done_old q (by decide))).1 5 (by decide) (by decide)) hn⟩
 ·rintro done a w hsz hnot hdep ⟨t32,t33,t34,t35,t36,t37,t38,t39,t40,t41,t42,t43,rfl,gw,f0,f1,f2,f3,f4,f5,f6,f7,f8,f9,f10,f11,f12⟩ K hK
  have hn:¬done.getD 6 false=true:=by rw[getD_both hnot];decide
  have d5:=hdep 5 (by kernel_rfl)
  obtain rfl:=f5 d5
  have nL:done.getD 12 false=false:=by
   cases e:done.getD 12 false with
   |false=>rfl
   |true=>exact absurd ((f12 e).1 6 (by decide) (by decide)) hn
  replace gw:=gw nL
  have w0:=W10.down
  have HK:=PLift.up hK
  clear hK d5
  simp only[lk8A]
  go_simp
  (try rw[show((10+k:Nat):Int)=10+(k:Int) by omega])
  have gg:Gr w w:=Gr.refl _
  refine HK.down _ _ ⟨_,_,_,_,_,_,_,_,_,_,_,_,rfl,fun _=>gw,kp f0,kp f1,kp f2,kp f3,kp f4,kp f5,fun _=>rfl,fun q=>(let⟨B,e,h2⟩:=f7 (done_old q (by decide));⟨B,e,fun q2=>(h2 nL).gr gg⟩),kp f8,fun q q2=>(let⟨x,c,e,h⟩:=f9 (done_old q (by decide)) nL;⟨x,c,e,Gr.owns h gg⟩),kp f10,kp f11,fun q=>absurd ((f12 (done_old q (by decide))).1 6 (by decide) (by decide)) hn⟩
 ·rintro done a w hsz hnot hdep ⟨t32,t33,t34,t35,t36,t37,t38,t39,t40,t41,t42,t43,rfl,gw,f0,f1,f2,f3,f4,f5,f6,f7,f8,f9,f10,f11,f12⟩ K hK
  have hn:¬done.getD 7 false=true:=by rw[getD_both hnot];decide
  have d6:=hdep 6 (by kernel_rfl)
  obtain rfl:=f6 d6
  have nL:done.getD 12 false=false:=by
   cases e:done.getD 12 false with
   |false=>rfl
   |true=>exact absurd ((f12 e).1 7 (by decide) (by decide)) hn
  replace gw:=gw nL
  have GW:=PLift.up gw
  have HK:=PLift.up hK
  clear hK d6
  simp only[lk8A]
  go_simp
  have gg:Gr w (w.alloc (.cells #[.int .i64 ((10+k:Nat):Int)] 3)):=(Gr.refl _).alloc _
  refine HK.down _ _ ⟨_,_,_,_,_,_,_,_,_,_,_,_,rfl,fun _=>GW.down.trans gg,kp f0,kp f1,kp f2,kp f3,kp f4,kp f5,kp f6,?_,kp f8,fun q q2=>(let⟨x,c,e,h⟩:=f9 (done_old q (by decide)) nL;⟨x,c,e,Gr.owns h gg⟩),kp f10,kp f11,fun q=>absurd ((f12 (done_old q (by decide))).1 7 (by decide) (by decide)) hn⟩
  exact fun _=>⟨_,rfl,fun _=>Row.new w _ _⟩
 ·rintro done a w hsz hnot hdep ⟨t32,t33,t34,t35,t36,t37,t38,t39,t40,t41,t42,t43,rfl,gw,f0,f1,f2,f3,f4,f5,f6,f7,f8,f9,f10,f11,f12⟩ K hK
  have hn:¬done.getD 8 false=true:=by rw[getD_both hnot];decide
  have d7:=hdep 7 (by kernel_rfl)
  have nL:done.getD 12 false=false:=by
   cases e:done.getD 12 false with
   |false=>rfl
   |true=>exact absurd ((f12 e).1 8 (by decide) (by decide)) hn
  replace gw:=gw nL
  obtain⟨B,rfl,h2⟩:=f7 d7
  have H2:=PLift.up (h2 nL)
  have GW:=PLift.up gw
  clear h2
  have HK:=PLift.up hK
  clear hK
  simp only[lk8A]
  go_simp
  refine(growCells_any [10+k] (some ⟨B,0,none⟩) 1 w (sl_one H2.down (by have:=HK0.down;omega)) (by have:=HK0.down;simp;omega) (by simp) (by simp)).mono ?_
  rintro e w2 ⟨rfl,hg⟩
  (try go_simp)
  refine HK.down _ _ ⟨_,_,_,_,_,_,_,_,_,_,_,_,rfl,fun _=>GW.down.trans hg,kp f0,kp f1,kp f2,kp f3,kp f4,kp f5,kp f6,fun _=>⟨B,rfl,fun _=>H2.down.gr hg⟩,fun _=>rfl,fun q q2=>(let⟨x,c,e,h⟩:=f9 (done_old q (by decide)) nL;⟨x,c,e,Gr.owns h hg⟩),kp f10,kp f11,fun q=>absurd ((f12 (done_old q (by decide))).1 8 (by decide) (by decide)) hn⟩
 ·rintro done a w hsz hnot hdep ⟨t32,t33,t34,t35,t36,t37,t38,t39,t40,t41,t42,t43,rfl,gw,f0,f1,f2,f3,f4,f5,f6,f7,f8,f9,f10,f11,f12⟩ K hK
  have hn:¬done.getD 9 false=true:=by rw[getD_both hnot];decide
  have d4:=hdep 4 (by kernel_rfl)
  have d8:=hdep 8 (by kernel_rfl)
  obtain rfl:=f4 d4
  obtain rfl:=f8 d8
  have nL:done.getD 12 false=false:=by
   cases e:done.getD 12 false with
   |false=>rfl
   |true=>exact absurd ((f12 e).1 9 (by decide) (by decide)) hn
  replace gw:=gw nL
  have GW:=PLift.up gw
  have GS:=PLift.up gw.size
  have HK:=PLift.up hK
  clear hK d4 d8
  simp only[lk8A]
  go_simp
  refine(put_any ps pa pc [112,104,97,110,100,108,101] (cellsS [10+k]) w (HSL.down.gr RPrp.mono GW.down) HB.down.1 HB.down.2.1 (by simp) HB.down.2.2).mono ?_
  rintro e w2 ⟨x,c,rfl,ho,hg⟩
  (try go_simp)
  refine HK.down _ _ ⟨_,_,_,_,_,_,_,_,_,_,_,_,rfl,fun _=>GW.down.trans hg,kp f0,kp f1,kp f2,kp f3,kp f4,kp f5,kp f6,fun q=>(let⟨B,e,h2⟩:=f7 (done_old q (by decide));⟨B,e,fun q2=>(h2 nL).gr hg⟩),kp f8,?_,kp f10,kp f11,fun q=>absurd ((f12 (done_old q (by decide))).1 9 (by decide) (by decide)) hn⟩
  exact fun _ _=>⟨x,c,rfl,owns_low ho GS.down⟩
 ·rintro done a w hsz hnot hdep ⟨t32,t33,t34,t35,t36,t37,t38,t39,t40,t41,t42,t43,rfl,gw,f0,f1,f2,f3,f4,f5,f6,f7,f8,f9,f10,f11,f12⟩ K hK
  have hn:¬done.getD 10 false=true:=by rw[getD_both hnot];decide
  have d0:=hdep 0 (by kernel_rfl)
  obtain rfl:=f0 d0
  have HK:=PLift.up hK
  clear hK d0
  simp only[lk8A]
  go_simp
  have gg:Gr w w:=Gr.refl _
  refine HK.down _ _ ⟨_,_,_,_,_,_,_,_,_,_,_,_,rfl,fun q=>gw (by rw[getD_set_ne false (by decide)] at q;exact q),kp f0,kp f1,kp f2,kp f3,kp f4,kp f5,kp f6,fun q=>(let⟨B,e,h2⟩:=f7 (done_old q (by decide));⟨B,e,fun q2=>(h2 (by rw[getD_set_ne false (by decide)] at q2;exact q2)).gr gg⟩),kp f8,fun q q2=>(let⟨x,c,e,h⟩:=f9 (done_old q (by decide)) (by rw[getD_set_ne false (by decide)] at q2;exact q2);⟨x,c,e,Gr.owns h gg⟩),fun _=>rfl,kp f11,fun q=>⟨fun j hj hne=>getD_set_true ((f12 (done_old q (by decide))).1 j hj hne),(f12 (done_old q (by decide))).2⟩⟩
 ·rintro done a w hsz hnot hdep ⟨t32,t33,t34,t35,t36,t37,t38,t39,t40,t41,t42,t43,rfl,gw,f0,f1,f2,f3,f4,f5,f6,f7,f8,f9,f10,f11,f12⟩ K hK
  have hn:¬done.getD 11 false=true:=by rw[getD_both hnot];decide
  have d10:=hdep 10 (by kernel_rfl)
  obtain rfl:=f10 d10
  have nL:done.getD 12 false=false:=by
   cases e:done.getD 12 false with
   |false=>rfl
   |true=>exact absurd ((f12 e).1 11 (by decide) (by decide)) hn
  replace gw:=gw nL
  have c0:=cell_gr gw HC.down
  have ch:=has_of_cell c0
  have HK:=PLift.up hK
  clear hK d10
  simp only[lk8A]
  go_simp
  have gg:Gr w w:=Gr.refl _
  refine HK.down _ _ ⟨_,_,_,_,_,_,_,_,_,_,_,_,rfl,fun _=>gw,kp f0,kp f1,kp f2,kp f3,kp f4,kp f5,kp f6,fun q=>(let⟨B,e,h2⟩:=f7 (done_old q (by decide));⟨B,e,fun q2=>(h2 nL).gr gg⟩),kp f8,fun q q2=>(let⟨x,c,e,h⟩:=f9 (done_old q (by decide)) nL;⟨x,c,e,Gr.owns h gg⟩),kp f10,fun _=>rfl,fun q=>absurd ((f12 (done_old q (by decide))).1 11 (by decide) (by decide)) hn⟩
 ·rintro done a w hsz hnot hdep ⟨t32,t33,t34,t35,t36,t37,t38,t39,t40,t41,t42,t43,rfl,gw,f0,f1,f2,f3,f4,f5,f6,f7,f8,f9,f10,f11,f12⟩ K hK
  have hn:¬done.getD 12 false=true:=by rw[getD_both hnot];decide
  have d0:=hdep 0 (by kernel_rfl)
  have d1:=hdep 1 (by kernel_rfl)
  have d2:=hdep 2 (by kernel_rfl)
  have d3:=hdep 3 (by kernel_rfl)
  have d4:=hdep 4 (by kernel_rfl)
  have d5:=hdep 5 (by kernel_rfl)
  have d6:=hdep 6 (by kernel_rfl)
  have d7:=hdep 7 (by kernel_rfl)
  have d8:=hdep 8 (by kernel_rfl)
  have d9:=hdep 9 (by kernel_rfl)
  have d11:=hdep 11 (by kernel_rfl)
  obtain rfl:=f0 d0
  obtain rfl:=f1 d1
  obtain rfl:=f2 d2
  obtain rfl:=f3 d3
  obtain rfl:=f4 d4
  obtain rfl:=f5 d5
  obtain rfl:=f6 d6
  obtain rfl:=f8 d8
  obtain rfl:=f11 d11
  have nL:=getD_both hnot
  obtain⟨x,c,rfl,ho⟩:=f9 d9 nL
  have g1:=gw nL
  have c2:=cell_gr g1 HC.down
  have ch:=has_of_cell c2
  have cf:=HFR.down w g1
  have FN:=PLift.up (show Fin7 wr g k (putP ps ⟨[112,104,97,110,100,108,101],cellsS [10+k]⟩) (w.setCell ⟨g,k*3+2,none⟩ (.slice x (putP ps ⟨[112,104,97,110,100,108,101],cellsS [10+k]⟩).length c)) from⟨w,x,c,rfl,g1,ho⟩)
  have DD:=PLift.up (show∀j,j<12→j≠10→done.getD j false=true from by intro j hj hne;match j,hj,hne with|0,_,_=>exact d0|1,_,_=>exact d1|2,_,_=>exact d2|3,_,_=>exact d3|4,_,_=>exact d4|5,_,_=>exact d5|6,_,_=>exact d6|7,_,_=>exact d7|8,_,_=>exact d8|9,_,_=>exact d9|10,_,h=>exact absurd rfl h|11,_,_=>exact d11)
  have HK:=PLift.up hK
  clear hK d0 d1 d2 d3 d4 d5 d6 d8 d11
  simp only[lk8A]
  go_simp
  refine HK.down _ _ ⟨_,_,_,_,_,_,_,_,_,_,_,_,rfl,fun q=>absurd q (by rw[getD_set_same (by rw[hsz];decide)];decide),kp f0,kp f1,kp f2,kp f3,kp f4,kp f5,kp f6,fun q=>(let⟨B,e,h2⟩:=f7 (done_old q (by decide));⟨B,e,fun q2=>absurd q2 (by rw[getD_set_same (by rw[hsz];decide)];decide)⟩),kp f8,fun _ q2=>absurd q2 (by rw[getD_set_same (by rw[hsz];decide)];decide),kp f10,kp f11,?_⟩
  exact fun _=>⟨fun j hj hne=>getD_set_true (DD.down j hj hne),FN.down⟩
 ·rintro done a w hall ⟨t32,t33,t34,t35,t36,t37,t38,t39,t40,t41,t42,t43,rfl,gw,f0,f1,f2,f3,f4,f5,f6,f7,f8,f9,f10,f11,f12⟩
  exact h' _ _ _ _ _ _ _ _ _ _ _ _ w (f12 (hall 12 (by decide))).2
def lk10F(wr:World)(b len g k:Nat)(pa:Option Addr)(pc:Nat)(ps:List Prp)(t47 t48 t49 t50 t51 t52 t53 t54 t55 t56 t57 t58 t59:Value)(d:Array Bool)(w:World):Prop:=
 (d.getD 13 false=false→Mv b len wr w)∧(d.getD 0 false=true→t47= .pointer (some ⟨g,k*3,none⟩))∧
 (d.getD 1 false=true→t48= .pointer (some ⟨g,k*3,none⟩))∧
 (d.getD 2 false=true→t49= .pointer (some ⟨g,k*3,none⟩))∧
 (d.getD 3 false=true→t50= .pointer (some ⟨g,k*3+2,none⟩))∧
 (d.getD 4 false=true→t51= .slice pa ps.length pc)∧
 (d.getD 5 false=true→t52= .pointer (some ⟨b,0,none⟩))∧
 (d.getD 6 false=true→∃B,t53= .slice (some ⟨B,0,none⟩) 6 6∧B≠b∧(d.getD 13 false=false→Row w B 3 (nums [0,1,1,2,8,9])))∧
 (d.getD 7 false=true→∃m:Nat,t54= .int .i64 (m:Int)∧m≤9)∧
 (d.getD 8 false=true→d.getD 7 false=true∧∃(B m:Nat),t55= .slice (some ⟨B,0,none⟩) 1 1∧m≤9∧B≠b∧(d.getD 13 false=false→Row w B 3 (nums [(m:Int)])))∧
 (d.getD 9 false=true→d.getD 7 false=true∧∃m:Nat,t56= .string (bs (cellsS [m]))∧m≤9)∧
 (d.getD 10 false=true→d.getD 7 false=true∧(d.getD 13 false=false→(∃(m:Nat) (x:Option Addr) (c:Nat),m≤9∧t57= .slice x (putP ps ⟨[35,99,101,108,108,115],cellsS [m]⟩).length c∧w.ownsRow wr.heap.size 89 2 (.slice x (putP ps ⟨[35,99,101,108,108,115],cellsS [m]⟩).length c) (putP ps ⟨[35,99,101,108,108,115],cellsS [m]⟩).length ((putP ps ⟨[35,99,101,108,108,115],cellsS [m]⟩).flatMap encP))))∧
 (d.getD 11 false=true→t58= .pointer (some ⟨g,k*3,none⟩))∧
 (d.getD 12 false=true→t59= .pointer (some ⟨g,k*3+2,none⟩))∧
 (d.getD 13 false=true→((∀j,j<13→j≠11→d.getD j false=true)∧FinC wr b len g k ps w))
def lk10A(b g k:Nat)(t47 t48 t49 t50 t51 t52 t53 t54 t55 t56 t57 t58 t59 s1 s2 s3 s4 s5 s7 s8 s9 s10 s11 s12 s13 s14 s15 s16 s17 s18 s19 s20 s21 s22 s23 s24 s25 s26 s27 s28 s29 s30 s31 s32 s33 s34 s35 s36 s37 s38 s39 s40 s41 s42 s43 s44 s45 s46 s60 s61 s62 s63 s64 s65 s66 s67 s68 s69 s70 s71 s72 s73 s74 s75 s76 s77 s78 s79 s80 s81 s82 s83 s84 s85 s86 s87 s88 s89 s90 s91 s92 s93 s94 s95 s96 s97 s98 s99 s100 s101 s102 s103 s104 s105 s106 s107 s108 s109 s110 s111 s112 s113 s114 s115 s116 s117 s118 s119 s120 s121 s122 s123 s124 s125 s126 s127 s128 s129 s130 s131 s132 s133 s134 s135 s136 s137 s138 s139 s140 s141 s142 s143 s144 s145 s146 s147:Value):Act:={tmps:= #[.pointer (some ⟨b,0,none⟩),s1,s2,s3,s4,s5,.pointer (some ⟨g,k*3,none⟩),s7,s8,s9,s10,s11,s12,s13,s14,s15,s16,s17,s18,s19,s20,s21,s22,s23,s24,s25,s26,s27,s28,s29,s30,s31,s32,s33,s34,s35,s36,s37,s38,s39,s40,s41,s42,s43,s44,s45,s46,t47,t48,t49,t50,t51,t52,t53,t54,t55,t56,t57,t58,t59,s60,s61,s62,s63,s64,s65,s66,s67,s68,s69,s70,s71,s72,s73,s74,s75,s76,s77,s78,s79,s80,s81,s82,s83,s84,s85,s86,s87,s88,s89,s90,s91,s92,s93,s94,s95,s96,s97,s98,s99,s100,s101,s102,s103,s104,s105,s106,s107,s108,s109,s110,s111,s112,s113,s114,s115,s116,s117,s118,s119,s120,s121,s122,s123,s124,s125,s126,s127,s128,s129,s130,s131,s132,s133,s134,s135,s136,s137,s138,s139,s140,s141,s142,s143,s144,s145,s146,s147],defers:= []}
theorem lk10{Q:Exit→Act→World→Prop}{wr:World}{b len g k:Nat}{pa:Option Addr}{pc:Nat}{ps:List Prp}{s1 s2 s3 s4 s5 s7 s8 s9 s10 s11 s12 s13 s14 s15 s16 s17 s18 s19 s20 s21 s22 s23 s24 s25 s26 s27 s28 s29 s30 s31 s32 s33 s34 s35 s36 s37 s38 s39 s40 s41 s42 s43 s44 s45 s46 s47 s48 s49 s50 s51 s52 s53 s54 s55 s56 s57 s58 s59 s60 s61 s62 s63 s64 s65 s66 s67 s68 s69 s70 s71 s72 s73 s74 s75 s76 s77 s78 s79 s80 s81 s82 s83 s84 s85 s86 s87 s88 s89 s90 s91 s92 s93 s94 s95 s96 s97 s98 s99 s100 s101 s102 s103 s104 s105 s106 s107 s108 s109 s110 s111 s112 s113 s114 s115 s116 s117 s118 s119 s120 s121 s122 s123 s124 s125 s126 s127 s128 s129 s130 s131 s132 s133 s134 s135 s136 s137 s138 s139 s140 s141 s142 s143 s144 s145 s146 s147:Value}(htp:Tp wr b len)(hng:g≠b)(hc:wr.cell? ⟨g,k*3+2,none⟩=some (.slice pa ps.length pc))(hfr:∀W,Mv b len wr W→W.frozen? ⟨g,k*3+2,none⟩=false)(hsl:∀W,Mv b len wr W→SlOf 2 RPrp W pa ps)(hb:ps.length≤1000∧(∀q∈ps,q.name.length≤1000∧q.val.length≤100000)∧ps.length≤pc)
  (h':∀t47 t48 t49 t50 t51 t52 t53 t54 t55 t56 t57 t58 t59 wx,FinC wr b len g k ps wx→Q .normal (lk10A b g k t47 t48 t49 t50 t51 t52 t53 t54 t55 t56 t57 t58 t59 s1 s2 s3 s4 s5 s7 s8 s9 s10 s11 s12 s13 s14 s15 s16 s17 s18 s19 s20 s21 s22 s23 s24 s25 s26 s27 s28 s29 s30 s31 s32 s33 s34 s35 s36 s37 s38 s39 s40 s41 s42 s43 s44 s45 s46 s60 s61 s62 s63 s64 s65 s66 s67 s68 s69 s70 s71 s72 s73 s74 s75 s76 s77 s78 s79 s80 s81 s82 s83 s84 s85 s86 s87 s88 s89 s90 s91 s92 s93 s94 s95 s96 s97 s98 s99 s100 s101 s102 s103 s104 s105 s106 s107 s108 s109 s110 s111 s112 s113 s114 s115 s116 s117 s118 s119 s120 s121 s122 s123 s124 s125 s126 s127 s128 s129 s130 s131 s132 s133 s134 s135 s136 s137 s138 s139 s140 s141 s142 s143 s144 s145 s146 s147) wx):
  (Code.region 10 (regIn 10 Tryz.f12) true).wp Tryz.prog Q {tmps:= #[.pointer (some ⟨b,0,none⟩),s1,s2,s3,s4,s5,.pointer (some ⟨g,k*3,none⟩),s7,s8,s9,s10,s11,s12,s13,s14,s15,s16,s17,s18,s19,s20,s21,s22,s23,s24,s25,s26,s27,s28,s29,s30,s31,s32,s33,s34,s35,s36,s37,s38,s39,s40,s41,s42,s43,s44,s45,s46,s47,s48,s49,s50,s51,s52,s53,s54,s55,s56,s57,s58,s59,s60,s61,s62,s63,s64,s65,s66,s67,s68,s69,s70,s71,s72,s73,s74,s75,s76,s77,s78,s79,s80,s81,s82,s83,s84,s85,s86,s87,s88,s89,s90,s91,s92,s93,s94,s95,s96,s97,s98,s99,s100,s101,s102,s103,s104,s105,s106,s107,s108,s109,s110,s111,s112,s113,s114,s115,s116,s117,s118,s119,s120,s121,s122,s123,s124,s125,s126,s127,s128,s129,s130,s131,s132,s133,s134,s135,s136,s137,s138,s139,s140,s141,s142,s143,s144,s145,s146,s147],defers:= []} wr:=by
 have HTP:=PLift.up htp
 have HBS:=PLift.up htp.has
 have HNG:=PLift.up hng
 have HC:=PLift.up hc
 have HFR:=PLift.up hfr
 have HSL:=PLift.up hsl
 have HB:=PLift.up hb
 clear htp hng hc hfr hsl hb
 simp only[regIn,Tryz.f12,regOps,Option.bind_some,Option.getD_some,Nat.beq,cond_true,cond_false]
 refine wp_region_steps (fun done a w=>∃t47 t48 t49 t50 t51 t52 t53 t54 t55 t56 t57 t58 t59,a=lk10A b g k t47 t48 t49 t50 t51 t52 t53 t54 t55 t56 t57 t58 t59 s1 s2 s3 s4 s5 s7 s8 s9 s10 s11 s12 s13 s14 s15 s16 s17 s18 s19 s20 s21 s22 s23 s24 s25 s26 s27 s28 s29 s30 s31 s32 s33 s34 s35 s36 s37 s38 s39 s40 s41 s42 s43 s44 s45 s46 s60 s61 s62 s63 s64 s65 s66 s67 s68 s69 s70 s71 s72 s73 s74 s75 s76 s77 s78 s79 s80 s81 s82 s83 s84 s85 s86 s87 s88 s89 s90 s91 s92 s93 s94 s95 s96 s97 s98 s99 s100 s101 s102 s103 s104 s105 s106 s107 s108 s109 s110 s111 s112 s113 s114 s115 s116 s117 s118 s119 s120 s121 s122 s123 s124 s125 s126 s127 s128 s129 s130 s131 s132 s133 s134 s135 s136 s137 s138 s139 s140 s141 s142 s143 s144 s145 s146 s147∧lk10F wr b len g k pa pc ps t47 t48 t49 t50 t51 t52 t53 t54 t55 t56 t57 t58 t59 done w) (by kernel_rfl) (by kernel_rfl) ?_ ⟨?_,?_,?_,?_,?_,?_,?_,?_,?_,?_,?_,?_,?_,?_,trivial⟩ ?_
 ·exact⟨s47,s48,s49,s50,s51,s52,s53,s54,s55,s56,s57,s58,s59,rfl,fun _=>Mv.of_gr HTP.down (Gr.refl _).drew,fun q=>absurd q (by decide),fun q=>absurd q (by decide),fun q=>absurd q (by decide),fun q=>absurd q (by decide),fun q=>absurd q (by decide),fun q=>absurd q (by decide),fun q=>absurd q (by decide),fun q=>absurd q (by decide),fun q=>absurd q (by decide),fun q=>absurd q (by decide),fun q=>absurd q (by decide),fun q=>absurd q (by decide),fun q=>absurd q (by decide),fun q=>absurd q (by decide)⟩
 ·rintro done a w hsz hnot hdep ⟨t47,t48,t49,t50,t51,t52,t53,t54,t55,t56,t57,t58,t59,rfl,gw,f0,f1,f2,f3,f4,f5,f6,f7,f8,f9,f10,f11,f12,f13⟩ K hK
  have hn:¬done.getD 0 false=true:=by rw[getD_both hnot];decide
  have nL:done.getD 13 false=false:=by
   cases e:done.getD 13 false with
   |false=>rfl
   |true=>exact absurd ((f13 e).1 0 (by decide) (by decide)) hn
  replace gw:=gw nL
  have HK:=PLift.up hK
  clear hK
  simp only[lk10A]
  go_simp
  have gg:Gr w w:=Gr.refl _
  refine HK.down _ _ ⟨_,_,_,_,_,_,_,_,_,_,_,_,_,rfl,fun _=>gw,fun _=>rfl,kp f1,kp f2,kp f3,kp f4,kp f5,fun q=>(let⟨B,e,h2,h3⟩:=f6 (done_old q (by decide));⟨B,e,h2,fun q2=>(h3 nL).gr gg⟩),kp f7,fun q=>(let⟨e7,B,m,e,h1,h2,h3⟩:=f8 (done_old q (by decide));⟨getD_set_true e7,B,m,e,h1,h2,fun q2=>(h3 nL).gr gg⟩),fun q=>⟨getD_set_true (f9 (done_old q (by decide))).1,(f9 (done_old q (by decide))).2⟩,fun q=>⟨getD_set_true (f10 (done_old q (by decide))).1,fun q2=>(let⟨m,x,c,h1,e,h⟩:=(f10 (done_old q (by decide))).2 nL;⟨m,x,c,h1,e,Gr.owns h gg⟩)⟩,kp f11,kp f12,fun q=>absurd ((f13 (done_old q (by decide))).1 0 (by decide) (by decide)) hn⟩
 ·rintro done a w hsz hnot hdep ⟨t47,t48,t49,t50,t51,t52,t53,t54,t55,t56,t57,t58,t59,rfl,gw,f0,f1,f2,f3,f4,f5,f6,f7,f8,f9,f10,f11,f12,f13⟩ K hK
  have hn:¬done.getD 1 false=true:=by rw[getD_both hnot];decide
  have nL:done.getD 13 false=false:=by
   cases e:done.getD 13 false with
   |false=>rfl
   |true=>exact absurd ((f13 e).1 1 (by decide) (by decide)) hn
  replace gw:=gw nL
  have HK:=PLift.up hK
  clear hK
  simp only[lk10A]
  go_simp
  have gg:Gr w w:=Gr.refl _
  refine HK.down _ _ ⟨_,_,_,_,_,_,_,_,_,_,_,_,_,rfl,fun _=>gw,kp f0,fun _=>rfl,kp f2,kp f3,kp f4,kp f5,fun q=>(let⟨B,e,h2,h3⟩:=f6 (done_old q (by decide));⟨B,e,h2,fun q2=>(h3 nL).gr gg⟩),kp f7,fun q=>(let⟨e7,B,m,e,h1,h2,h3⟩:=f8 (done_old q (by decide));⟨getD_set_true e7,B,m,e,h1,h2,fun q2=>(h3 nL).gr gg⟩),fun q=>⟨getD_set_true (f9 (done_old q (by decide))).1,(f9 (done_old q (by decide))).2⟩,fun q=>⟨getD_set_true (f10 (done_old q (by decide))).1,fun q2=>(let⟨m,x,c,h1,e,h⟩:=(f10 (done_old q (by decide))).2 nL;⟨m,x,c,h1,e,Gr.owns h gg⟩)⟩,kp f11,kp f12,fun q=>absurd ((f13 (done_old q (by decide))).1 1 (by decide) (by decide)) hn⟩
 ·rintro done a w hsz hnot hdep ⟨t47,t48,t49,t50,t51,t52,t53,t54,t55,t56,t57,t58,t59,rfl,gw,f0,f1,f2,f3,f4,f5,f6,f7,f8,f9,f10,f11,f12,f13⟩ K hK
  have hn:¬done.getD 2 false=true:=by rw[getD_both hnot];decide
  have d1:=hdep 1 (by kernel_rfl)
  obtain rfl:=f1 d1
  have nL:done.getD 13 false=false:=by
   cases e:done.getD 13 false with
   |false=>rfl
   |true=>exact absurd ((f13 e).1 2 (by decide) (by decide)) hn
  replace gw:=gw nL
  have c0:=gw.cell HNG.down HC.down
  have ch:=has_of_cell c0
  have HK:=PLift.up hK
  clear hK d1
  simp only[lk10A]
  go_simp
  have gg:Gr w w:=Gr.refl _
  refine HK.down _ _ ⟨_,_,_,_,_,_,_,_,_,_,_,_,_,rfl,fun _=>gw,kp f0,kp f1,fun _=>rfl,kp f3,kp f4,kp f5,fun q=>(let⟨B,e,h2,h3⟩:=f6 (done_old q (by decide));⟨B,e,h2,fun q2=>(h3 nL).gr gg⟩),kp f7,fun q=>(let⟨e7,B,m,e,h1,h2,h3⟩:=f8 (done_old q (by decide));⟨getD_set_true e7,B,m,e,h1,h2,fun q2=>(h3 nL).gr gg⟩),fun q=>⟨getD_set_true (f9 (done_old q (by decide))).1,(f9 (done_old q (by decide))).2⟩,fun q=>⟨getD_set_true (f10 (done_old q (by decide))).1,fun q2=>(let⟨m,x,c,h1,e,h⟩:=(f10 (done_old q (by decide))).2 nL;⟨m,x,c,h1,e,Gr.owns h gg⟩)⟩,kp f11,kp f12,fun q=>absurd ((f13 (done_old q (by decide))).1 2 (by decide) (by decide)) hn⟩
 ·rintro done a w hsz hnot hdep ⟨t47,t48,t49,t50,t51,t52,t53,t54,t55,t56,t57,t58,t59,rfl,gw,f0,f1,f2,f3,f4,f5,f6,f7,f8,f9,f10,f11,f12,f13⟩ K hK
  have hn:¬done.getD 3 false=true:=by rw[getD_both hnot];decide
  have d2:=hdep 2 (by kernel_rfl)
  obtain rfl:=f2 d2
  have nL:done.getD 13 false=false:=by
   cases e:done.getD 13 false with
   |false=>rfl
   |true=>exact absurd ((f13 e).1 3 (by decide) (by decide)) hn
  replace gw:=gw nL
  have c0:=gw.cell HNG.down HC.down
  have ch:=has_of_cell c0
  have HK:=PLift.up hK
  clear hK d2
  simp only[lk10A]
  go_simp
  have gg:Gr w w:=Gr.refl _
  refine HK.down _ _ ⟨_,_,_,_,_,_,_,_,_,_,_,_,_,rfl,fun _=>gw,kp f0,kp f1,kp f2,fun _=>rfl,kp f4,kp f5,fun q=>(let⟨B,e,h2,h3⟩:=f6 (done_old q (by decide));⟨B,e,h2,fun q2=>(h3 nL).gr gg⟩),kp f7,fun q=>(let⟨e7,B,m,e,h1,h2,h3⟩:=f8 (done_old q (by decide));⟨getD_set_true e7,B,m,e,h1,h2,fun q2=>(h3 nL).gr gg⟩),fun q=>⟨getD_set_true (f9 (done_old q (by decide))).1,(f9 (done_old q (by decide))).2⟩,fun q=>⟨getD_set_true (f10 (done_old q (by decide))).1,fun q2=>(let⟨m,x,c,h1,e,h⟩:=(f10 (done_old q (by decide))).2 nL;⟨m,x,c,h1,e,Gr.owns h gg⟩)⟩,kp f11,kp f12,fun q=>absurd ((f13 (done_old q (by decide))).1 3 (by decide) (by decide)) hn⟩
 ·rintro done a w hsz hnot hdep ⟨t47,t48,t49,t50,t51,t52,t53,t54,t55,t56,t57,t58,t59,rfl,gw,f0,f1,f2,f3,f4,f5,f6,f7,f8,f9,f10,f11,f12,f13⟩ K hK
  have hn:¬done.getD 4 false=true:=by rw[getD_both hnot];decide
  have d3:=hdep 3 (by kernel_rfl)
  obtain rfl:=f3 d3
  have nL:done.getD 13 false=false:=by
   cases e:done.getD 13 false with
   |false=>rfl
   |true=>exact absurd ((f13 e).1 4 (by decide) (by decide)) hn
  replace gw:=gw nL
  have c0:=gw.cell HNG.down HC.down
  have ch:=has_of_cell c0
  have HK:=PLift.up hK
  clear hK d3
  simp only[lk10A]
  go_simp
  have gg:Gr w w:=Gr.refl _
  refine HK.down _ _ ⟨_,_,_,_,_,_,_,_,_,_,_,_,_,rfl,fun _=>gw,kp f0,kp f1,kp f2,kp f3,fun _=>rfl,kp f5,fun q=>(let⟨B,e,h2,h3⟩:=f6 (done_old q (by decide));⟨B,e,h2,fun q2=>(h3 nL).gr gg⟩),kp f7,fun q=>(let⟨e7,B,m,e,h1,h2,h3⟩:=f8 (done_old q (by decide));⟨getD_set_true e7,B,m,e,h1,h2,fun q2=>(h3 nL).gr gg⟩),fun q=>⟨getD_set_true (f9 (done_old q (by decide))).1,(f9 (done_old q (by decide))).2⟩,fun q=>⟨getD_set_true (f10 (done_old q (by decide))).1,fun q2=>(let⟨m,x,c,h1,e,h⟩:=(f10 (done_old q (by decide))).2 nL;⟨m,x,c,h1,e,Gr.owns h gg⟩)⟩,kp f11,kp f12,fun q=>absurd ((f13 (done_old q (by decide))).1 4 (by decide) (by decide)) hn⟩
 ·rintro done a w hsz hnot hdep ⟨t47,t48,t49,t50,t51,t52,t53,t54,t55,t56,t57,t58,t59,rfl,gw,f0,f1,f2,f3,f4,f5,f6,f7,f8,f9,f10,f11,f12,f13⟩ K hK
  have hn:¬done.getD 5 false=true:=by rw[getD_both hnot];decide
  have nL:done.getD 13 false=false:=by
   cases e:done.getD 13 false with
   |false=>rfl
   |true=>exact absurd ((f13 e).1 5 (by decide) (by decide)) hn
  replace gw:=gw nL
  have HK:=PLift.up hK
  clear hK
  simp only[lk10A]
  go_simp
  have gg:Gr w w:=Gr.refl _
  refine HK.down _ _ ⟨_,_,_,_,_,_,_,_,_,_,_,_,_,rfl,fun _=>gw,kp f0,kp f1,kp f2,kp f3,kp f4,fun _=>rfl,fun q=>(let⟨B,e,h2,h3⟩:=f6 (done_old q (by decide));⟨B,e,h2,fun q2=>(h3 nL).gr gg⟩),kp f7,fun q=>(let⟨e7,B,m,e,h1,h2,h3⟩:=f8 (done_old q (by decide));⟨getD_set_true e7,B,m,e,h1,h2,fun q2=>(h3 nL).gr gg⟩),fun q=>⟨getD_set_true (f9 (done_old q (by decide))).1,(f9 (done_old q (by decide))).2⟩,fun q=>⟨getD_set_true (f10 (done_old q (by decide))).1,fun q2=>(let⟨m,x,c,h1,e,h⟩:=(f10 (done_old q (by decide))).2 nL;⟨m,x,c,h1,e,Gr.owns h gg⟩)⟩,kp f11,kp f12,fun q=>absurd ((f13 (done_old q (by decide))).1 5 (by decide) (by decide)) hn⟩
 ·rintro done a w hsz hnot hdep ⟨t47,t48,t49,t50,t51,t52,t53,t54,t55,t56,t57,t58,t59,rfl,gw,f0,f1,f2,f3,f4,f5,f6,f7,f8,f9,f10,f11,f12,f13⟩ K hK
  have hn:¬done.getD 6 false=true:=by rw[getD_both hnot];decide
  have nL:done.getD 13 false=false:=by
   cases e:done.getD 13 false with
   |false=>rfl
   |true=>exact absurd ((f13 e).1 6 (by decide) (by decide)) hn
  replace gw:=gw nL
  have GW:=PLift.up gw
  have HNE:=PLift.up (show w.heap.size≠b by have:=(gw.tp HTP.down).has;omega)
  have HK:=PLift.up hK
  clear hK
  simp only[lk10A]
  go_simp
  have gg:Gr w (w.alloc (.cells #[.int .i64 0,.int .i64 1,.int .i64 1,.int .i64 2,.int .i64 8,.int .i64 9] 3)):=(Gr.refl _).alloc _
  refine HK.down _ _ ⟨_,_,_,_,_,_,_,_,_,_,_,_,_,rfl,fun _=>GW.down.gr gg,kp f0,kp f1,kp f2,kp f3,kp f4,kp f5,?_,kp f7,fun q=>(let⟨e7,B,m,e,h1,h2,h3⟩:=f8 (done_old q (by decide));⟨getD_set_true e7,B,m,e,h1,h2,fun q2=>(h3 nL).gr gg⟩),fun q=>⟨getD_set_true (f9 (done_old q (by decide))).1,(f9 (done_old q (by decide))).2⟩,fun q=>⟨getD_set_true (f10 (done_old q (by decide))).1,fun q2=>(let⟨m,x,c,h1,e,h⟩:=(f10 (done_old q (by decide))).2 nL;⟨m,x,c,h1,e,Gr.owns h gg⟩)⟩,kp f11,kp f12,fun q=>absurd ((f13 (done_old q (by decide))).1 6 (by decide) (by decide)) hn⟩
  exact fun _=>⟨_,rfl,HNE.down,fun _=>Row.new w _ _⟩
 ·rintro done a w hsz hnot hdep ⟨t47,t48,t49,t50,t51,t52,t53,t54,t55,t56,t57,t58,t59,rfl,gw,f0,f1,f2,f3,f4,f5,f6,f7,f8,f9,f10,f11,f12,f13⟩ K hK
  have hn:¬done.getD 7 false=true:=by rw[getD_both hnot];decide
  have d5:=hdep 5 (by kernel_rfl)
  have d6:=hdep 6 (by kernel_rfl)
  obtain rfl:=f5 d5
  have nL:done.getD 13 false=false:=by
   cases e:done.getD 13 false with
   |false=>rfl
   |true=>exact absurd ((f13 e).1 7 (by decide) (by decide)) hn
  replace gw:=gw nL
  obtain⟨B,rfl,h2,h3⟩:=f6 d6
  have HB2:=PLift.up h2
  have HR:=PLift.up (h3 nL)
  have TP:=PLift.up (gw.tp HTP.down)
  have GW:=PLift.up gw
  clear h2 h3
  have HK:=PLift.up hK
  clear hK d5
  simp only[lk10A]
  go_simp
  refine(pickM_any w b len TP.down B 6 (fun x=>0≤x∧x≤9) (by omega) (by omega) HB2.down (fun k hk=>?_)).mono ?_
  ·have hk2:k< [(0:Int),1,1,2,8,9].length:=hk
   refine⟨_,HR.down.iat k hk2,?_⟩
   have:∀z∈ [(0:Int),1,1,2,8,9],0≤z∧z≤9:=by decide
   exact this _ (List.getElem_mem hk2)
  rintro e w2 ⟨x,rfl,⟨x0,x1⟩,hm⟩
  obtain⟨m,rfl⟩:=Int.eq_ofNat_of_zero_le x0
  (try go_simp)
  refine HK.down _ _ ⟨_,_,_,_,_,_,_,_,_,_,_,_,_,rfl,fun _=>GW.down.trans HBS.down hm,kp f0,kp f1,kp f2,kp f3,kp f4,kp f5,fun _=>⟨B,rfl,HB2.down,fun _=>hm.row HR.down HB2.down⟩,?_,fun q=>absurd (f8 (done_old q (by decide))).1 hn,fun q=>absurd (f9 (done_old q (by decide))).1 hn,fun q=>absurd (f10 (done_old q (by decide))).1 hn,kp f11,kp f12,fun q=>absurd ((f13 (done_old q (by decide))).1 7 (by decide) (by decide)) hn⟩
  exact fun _=>⟨m,rfl,by omega⟩
 ·rintro done a w hsz hnot hdep ⟨t47,t48,t49,t50,t51,t52,t53,t54,t55,t56,t57,t58,t59,rfl,gw,f0,f1,f2,f3,f4,f5,f6,f7,f8,f9,f10,f11,f12,f13⟩ K hK
  have hn:¬done.getD 8 false=true:=by rw[getD_both hnot];decide
  have d7:=hdep 7 (by kernel_rfl)
  have nL:done.getD 13 false=false:=by
   cases e:done.getD 13 false with
   |false=>rfl
   |true=>exact absurd ((f13 e).1 8 (by decide) (by decide)) hn
  replace gw:=gw nL
  have D7:=PLift.up d7
  obtain⟨m,rfl,hm9⟩:=f7 d7
  have M9:=PLift.up hm9
  have GW:=PLift.up gw
  have HNE:=PLift.up (show w.heap.size≠b by have:=(gw.tp HTP.down).has;omega)
  have HK:=PLift.up hK
  clear hK
  simp only[lk10A]
  go_simp
  have gg:Gr w (w.alloc (.cells #[.int .i64 (m:Int)] 3)):=(Gr.refl _).alloc _
  refine HK.down _ _ ⟨_,_,_,_,_,_,_,_,_,_,_,_,_,rfl,fun _=>GW.down.gr gg,kp f0,kp f1,kp f2,kp f3,kp f4,kp f5,fun q=>(let⟨B,e,h2,h3⟩:=f6 (done_old q (by decide));⟨B,e,h2,fun q2=>(h3 nL).gr gg⟩),fun _=>⟨m,rfl,M9.down⟩,?_,fun q=>⟨getD_set_true (f9 (done_old q (by decide))).1,(f9 (done_old q (by decide))).2⟩,fun q=>⟨getD_set_true (f10 (done_old q (by decide))).1,fun q2=>(let⟨m,x,c,h1,e,h⟩:=(f10 (done_old q (by decide))).2 nL;⟨m,x,c,h1,e,Gr.owns h gg⟩)⟩,kp f11,kp f12,fun q=>absurd ((f13 (done_old q (by decide))).1 8 (by decide) (by decide)) hn⟩
  exact fun _=>⟨getD_set_true D7.down,_,m,rfl,M9.down,HNE.down,fun _=>Row.new w _ _⟩
 ·rintro done a w hsz hnot hdep ⟨t47,t48,t49,t50,t51,t52,t53,t54,t55,t56,t57,t58,t59,rfl,gw,f0,f1,f2,f3,f4,f5,f6,f7,f8,f9,f10,f11,f12,f13⟩ K hK
  have hn:¬done.getD 9 false=true:=by rw[getD_both hnot];decide
  have d8:=hdep 8 (by kernel_rfl)
  have nL:done.getD 13 false=false:=by
   cases e:done.getD 13 false with
   |false=>rfl
   |true=>exact absurd ((f13 e).1 9 (by decide) (by decide)) hn
  replace gw:=gw nL
  obtain⟨d7,B,m,rfl,h1,h2,h3⟩:=f8 d8
  have D7:=PLift.up d7
  have M9:=PLift.up h1
  have HB2:=PLift.up h2
  have H3:=PLift.up (h3 nL)
  have GW:=PLift.up gw
  clear h1 h2 h3
  have HK:=PLift.up hK
  clear hK
  simp only[lk10A]
  go_simp
  refine(growCells_any [m] (some ⟨B,0,none⟩) 1 w (sl_one H3.down (by have:=M9.down;omega)) (by have:=M9.down;simp;omega) (by simp) (by simp)).mono ?_
  rintro e w2 ⟨rfl,hg⟩
  (try go_simp)
  refine HK.down _ _ ⟨_,_,_,_,_,_,_,_,_,_,_,_,_,rfl,fun _=>GW.down.gr hg,kp f0,kp f1,kp f2,kp f3,kp f4,kp f5,fun q=>(let⟨B,e,h2,h3⟩:=f6 (done_old q (by decide));⟨B,e,h2,fun q2=>(h3 nL).gr hg⟩),kp f7,fun _=>⟨getD_set_true D7.down,B,m,rfl,M9.down,HB2.down,fun _=>H3.down.gr hg⟩,?_,fun q=>⟨getD_set_true (f10 (done_old q (by decide))).1,fun q2=>(let⟨m,x,c,h1,e,h⟩:=(f10 (done_old q (by decide))).2 nL;⟨m,x,c,h1,e,Gr.owns h hg⟩)⟩,kp f11,kp f12,fun q=>absurd ((f13 (done_old q (by decide))).1 9 (by decide) (by decide)) hn⟩
  exact fun _=>⟨getD_set_true D7.down,m,rfl,M9.down⟩
 ·rintro done a w hsz hnot hdep ⟨t47,t48,t49,t50,t51,t52,t53,t54,t55,t56,t57,t58,t59,rfl,gw,f0,f1,f2,f3,f4,f5,f6,f7,f8,f9,f10,f11,f12,f13⟩ K hK
  have hn:¬done.getD 10 false=true:=by rw[getD_both hnot];decide
  have d4:=hdep 4 (by kernel_rfl)
  have d9:=hdep 9 (by kernel_rfl)
  obtain rfl:=f4 d4
  have nL:done.getD 13 false=false:=by
   cases e:done.getD 13 false with
   |false=>rfl
   |true=>exact absurd ((f13 e).1 10 (by decide) (by decide)) hn
  replace gw:=gw nL
  obtain⟨d7,m,rfl,h1⟩:=f9 d9
  have D7:=PLift.up d7
  have M9:=PLift.up h1
  have GW:=PLift.up gw
  have GS:=PLift.up gw.size
  clear h1
  have HK:=PLift.up hK
  clear hK d4
  simp only[lk10A]
  go_simp
  refine(put_any ps pa pc [35,99,101,108,108,115] (cellsS [m]) w (HSL.down w GW.down) HB.down.1 HB.down.2.1 (by simp) HB.down.2.2).mono ?_
  rintro e w2 ⟨x,c,rfl,ho,hg⟩
  (try go_simp)
  refine HK.down _ _ ⟨_,_,_,_,_,_,_,_,_,_,_,_,_,rfl,fun _=>GW.down.gr hg,kp f0,kp f1,kp f2,kp f3,kp f4,kp f5,fun q=>(let⟨B,e,h2,h3⟩:=f6 (done_old q (by decide));⟨B,e,h2,fun q2=>(h3 nL).gr hg⟩),kp f7,fun q=>(let⟨e7,B,m,e,h1,h2,h3⟩:=f8 (done_old q (by decide));⟨getD_set_true e7,B,m,e,h1,h2,fun q2=>(h3 nL).gr hg⟩),fun _=>⟨getD_set_true D7.down,m,rfl,M9.down⟩,?_,kp f11,kp f12,fun q=>absurd ((f13 (done_old q (by decide))).1 10 (by decide) (by decide)) hn⟩
  exact fun _=>⟨getD_set_true D7.down,fun _=>⟨m,x,c,M9.down,rfl,owns_low ho GS.down⟩⟩
 ·rintro done a w hsz hnot hdep ⟨t47,t48,t49,t50,t51,t52,t53,t54,t55,t56,t57,t58,t59,rfl,gw,f0,f1,f2,f3,f4,f5,f6,f7,f8,f9,f10,f11,f12,f13⟩ K hK
  have hn:¬done.getD 11 false=true:=by rw[getD_both hnot];decide
  have d0:=hdep 0 (by kernel_rfl)
  obtain rfl:=f0 d0
  have HK:=PLift.up hK
  clear hK d0
  simp only[lk10A]
  go_simp
  have gg:Gr w w:=Gr.refl _
  refine HK.down _ _ ⟨_,_,_,_,_,_,_,_,_,_,_,_,_,rfl,fun q=>gw (by rw[getD_set_ne false (by decide)] at q;exact q),kp f0,kp f1,kp f2,kp f3,kp f4,kp f5,fun q=>(let⟨B,e,h2,h3⟩:=f6 (done_old q (by decide));⟨B,e,h2,fun q2=>(h3 (by rw[getD_set_ne false (by decide)] at q2;exact q2)).gr gg⟩),kp f7,fun q=>(let⟨e7,B,m,e,h1,h2,h3⟩:=f8 (done_old q (by decide));⟨getD_set_true e7,B,m,e,h1,h2,fun q2=>(h3 (by rw[getD_set_ne false (by decide)] at q2;exact q2)).gr gg⟩),fun q=>⟨getD_set_true (f9 (done_old q (by decide))).1,(f9 (done_old q (by decide))).2⟩,fun q=>⟨getD_set_true (f10 (done_old q (by decide))).1,fun q2=>(let⟨m,x,c,h1,e,h⟩:=(f10 (done_old q (by decide))).2 (by rw[getD_set_ne false (by decide)] at q2;exact q2);⟨m,x,c,h1,e,Gr.owns h gg⟩)⟩,fun _=>rfl,kp f12,fun q=>⟨fun j hj hne=>getD_set_true ((f13 (done_old q (by decide))).1 j hj hne),(f13 (done_old q (by decide))).2⟩⟩
 ·rintro done a w hsz hnot hdep ⟨t47,t48,t49,t50,t51,t52,t53,t54,t55,t56,t57,t58,t59,rfl,gw,f0,f1,f2,f3,f4,f5,f6,f7,f8,f9,f10,f11,f12,f13⟩ K hK
  have hn:¬done.getD 12 false=true:=by rw[getD_both hnot];decide
  have d11:=hdep 11 (by kernel_rfl)
  obtain rfl:=f11 d11
  have nL:done.getD 13 false=false:=by
   cases e:done.getD 13 false with
   |false=>rfl
   |true=>exact absurd ((f13 e).1 12 (by decide) (by decide)) hn
  replace gw:=gw nL
  have c0:=gw.cell HNG.down HC.down
  have ch:=has_of_cell c0
  have HK:=PLift.up hK
  clear hK d11
  simp only[lk10A]
  go_simp
  have gg:Gr w w:=Gr.refl _
  refine HK.down _ _ ⟨_,_,_,_,_,_,_,_,_,_,_,_,_,rfl,fun _=>gw,kp f0,kp f1,kp f2,kp f3,kp f4,kp f5,fun q=>(let⟨B,e,h2,h3⟩:=f6 (done_old q (by decide));⟨B,e,h2,fun q2=>(h3 nL).gr gg⟩),kp f7,fun q=>(let⟨e7,B,m,e,h1,h2,h3⟩:=f8 (done_old q (by decide));⟨getD_set_true e7,B,m,e,h1,h2,fun q2=>(h3 nL).gr gg⟩),fun q=>⟨getD_set_true (f9 (done_old q (by decide))).1,(f9 (done_old q (by decide))).2⟩,fun q=>⟨getD_set_true (f10 (done_old q (by decide))).1,fun q2=>(let⟨m,x,c,h1,e,h⟩:=(f10 (done_old q (by decide))).2 nL;⟨m,x,c,h1,e,Gr.owns h gg⟩)⟩,kp f11,fun _=>rfl,fun q=>absurd ((f13 (done_old q (by decide))).1 12 (by decide) (by decide)) hn⟩
 ·rintro done a w hsz hnot hdep ⟨t47,t48,t49,t50,t51,t52,t53,t54,t55,t56,t57,t58,t59,rfl,gw,f0,f1,f2,f3,f4,f5,f6,f7,f8,f9,f10,f11,f12,f13⟩ K hK
  have hn:¬done.getD 13 false=true:=by rw[getD_both hnot];decide
  have d0:=hdep 0 (by kernel_rfl)
  have d1:=hdep 1 (by kernel_rfl)
  have d2:=hdep 2 (by kernel_rfl)
  have d3:=hdep 3 (by kernel_rfl)
  have d4:=hdep 4 (by kernel_rfl)
  have d5:=hdep 5 (by kernel_rfl)
  have d6:=hdep 6 (by kernel_rfl)
  have d7:=hdep 7 (by kernel_rfl)
  have d8:=hdep 8 (by kernel_rfl)
  have d9:=hdep 9 (by kernel_rfl)
  have d10:=hdep 10 (by kernel_rfl)
  have d12:=hdep 12 (by kernel_rfl)
  obtain rfl:=f0 d0
  obtain rfl:=f1 d1
  obtain rfl:=f2 d2
  obtain rfl:=f3 d3
  obtain rfl:=f4 d4
  obtain rfl:=f5 d5
  obtain rfl:=f12 d12
  have nL:=getD_both hnot
  obtain⟨_,k10⟩:=f10 d10
  obtain⟨m,x,c,h1,rfl,ho⟩:=k10 nL
  have g1:=gw nL
  have c2:=g1.cell HNG.down HC.down
  have ch:=has_of_cell c2
  have cf:=HFR.down w g1
  have FN:=PLift.up (show FinC wr b len g k ps (w.setCell ⟨g,k*3+2,none⟩ (.slice x (putP ps ⟨[35,99,101,108,108,115],cellsS [m]⟩).length c)) from⟨w,m,x,c,rfl,h1,g1,ho⟩)
  have DD:=PLift.up (show∀j,j<13→j≠11→done.getD j false=true from by intro j hj hne;match j,hj,hne with|0,_,_=>exact d0|1,_,_=>exact d1|2,_,_=>exact d2|3,_,_=>exact d3|4,_,_=>exact d4|5,_,_=>exact d5|6,_,_=>exact d6|7,_,_=>exact d7|8,_,_=>exact d8|9,_,_=>exact d9|10,_,_=>exact d10|11,_,h=>exact absurd rfl h|12,_,_=>exact d12)
  have HK:=PLift.up hK
  clear hK d0 d1 d2 d3 d4 d5 d12
  simp only[lk10A]
  go_simp
  refine HK.down _ _ ⟨_,_,_,_,_,_,_,_,_,_,_,_,_,rfl,fun q=>absurd q (by rw[getD_set_same (by rw[hsz];decide)];decide),kp f0,kp f1,kp f2,kp f3,kp f4,kp f5,fun q=>(let⟨B,e,h2,h3⟩:=f6 (done_old q (by decide));⟨B,e,h2,fun q2=>absurd q2 (by rw[getD_set_same (by rw[hsz];decide)];decide)⟩),kp f7,fun q=>(let⟨e7,B,m,e,h1,h2,h3⟩:=f8 (done_old q (by decide));⟨getD_set_true e7,B,m,e,h1,h2,fun q2=>absurd q2 (by rw[getD_set_same (by rw[hsz];decide)];decide)⟩),fun q=>⟨getD_set_true (f9 (done_old q (by decide))).1,(f9 (done_old q (by decide))).2⟩,fun q=>⟨getD_set_true (f10 (done_old q (by decide))).1,fun q2=>absurd q2 (by rw[getD_set_same (by rw[hsz];decide)];decide)⟩,kp f11,kp f12,?_⟩
  exact fun _=>⟨fun j hj hne=>getD_set_true (DD.down j hj hne),FN.down⟩
 ·rintro done a w hall ⟨t47,t48,t49,t50,t51,t52,t53,t54,t55,t56,t57,t58,t59,rfl,gw,f0,f1,f2,f3,f4,f5,f6,f7,f8,f9,f10,f11,f12,f13⟩
  exact h' _ _ _ _ _ _ _ _ _ _ _ _ _ w (f13 (hall 13 (by decide))).2
def lk29F(wr:World)(g k:Nat)(PX n vc:Nat)(val:St)(pa:Option Addr)(pc:Nat)(ps:List Prp)(t121 t122 t123 t124 t125 t126 t127 t128 t129 t130 t131 t132 t133:Value)(d:Array Bool)(w:World):Prop:=
 (d.getD 13 false=false→Gr wr w)∧(d.getD 0 false=true→t121= .pointer (some ⟨PX,0,none⟩))∧
 (d.getD 1 false=true→t122= .slice (some ⟨g,0,none⟩) n vc)∧
 (d.getD 2 false=true→t123= .int .i64 (k:Int))∧
 (d.getD 3 false=true→t124= .pointer (some ⟨PX,0,none⟩))∧
 (d.getD 4 false=true→t125= .slice (some ⟨g,0,none⟩) n vc)∧
 (d.getD 5 false=true→t126= .int .i64 (k:Int))∧
 (d.getD 6 false=true→t127= .pointer (some ⟨g,k*3,none⟩))∧
 (d.getD 7 false=true→t128= .pointer (some ⟨g,k*3+2,none⟩))∧
 (d.getD 8 false=true→t129= .slice pa ps.length pc)∧
 (d.getD 9 false=true→t130= .string (bs val))∧
 (d.getD 10 false=true→(d.getD 13 false=false→(∃x c,t131= .slice x (putP ps ⟨[99,108,111,99,107,115],val⟩).length c∧w.ownsRow wr.heap.size 89 2 (.slice x (putP ps ⟨[99,108,111,99,107,115],val⟩).length c) (putP ps ⟨[99,108,111,99,107,115],val⟩).length ((putP ps ⟨[99,108,111,99,107,115],val⟩).flatMap encP))))∧
 (d.getD 11 false=true→t132= .pointer (some ⟨g,k*3,none⟩))∧
 (d.getD 12 false=true→t133= .pointer (some ⟨g,k*3+2,none⟩))∧
 (d.getD 13 false=true→((∀j,j<13→j≠11→d.getD j false=true)∧Fin7 wr g k (putP ps ⟨[99,108,111,99,107,115],val⟩) w))
def lk29A(PX k:Nat)(val:St)(t121 t122 t123 t124 t125 t126 t127 t128 t129 t130 t131 t132 t133 s0 s1 s2 s4 s5 s6 s9 s10 s11 s12 s13 s14 s15 s16 s17 s18 s19 s20 s21 s22 s23 s24 s25 s26 s27 s28 s29 s30 s31 s32 s33 s34 s35 s36 s37 s38 s39 s40 s41 s42 s43 s44 s45 s46 s47 s48 s49 s50 s51 s52 s53 s54 s55 s56 s57 s58 s59 s60 s61 s62 s63 s64 s65 s66 s67 s68 s69 s70 s71 s72 s73 s74 s75 s76 s77 s78 s79 s80 s81 s82 s83 s84 s85 s86 s87 s88 s89 s90 s91 s92 s93 s94 s95 s96 s97 s98 s99 s100 s101 s102 s103 s104 s105 s106 s107 s108 s109 s110 s111 s112 s113 s114 s115 s116 s117 s118 s119 s120 s134 s135 s136 s137 s138 s139 s140 s141 s142 s143 s144 s145 s146 s147:Value):Act:={tmps:= #[s0,s1,s2,.pointer (some ⟨PX,0,none⟩),s4,s5,s6,.int .i64 (k:Int),.string (bs val),s9,s10,s11,s12,s13,s14,s15,s16,s17,s18,s19,s20,s21,s22,s23,s24,s25,s26,s27,s28,s29,s30,s31,s32,s33,s34,s35,s36,s37,s38,s39,s40,s41,s42,s43,s44,s45,s46,s47,s48,s49,s50,s51,s52,s53,s54,s55,s56,s57,s58,s59,s60,s61,s62,s63,s64,s65,s66,s67,s68,s69,s70,s71,s72,s73,s74,s75,s76,s77,s78,s79,s80,s81,s82,s83,s84,s85,s86,s87,s88,s89,s90,s91,s92,s93,s94,s95,s96,s97,s98,s99,s100,s101,s102,s103,s104,s105,s106,s107,s108,s109,s110,s111,s112,s113,s114,s115,s116,s117,s118,s119,s120,t121,t122,t123,t124,t125,t126,t127,t128,t129,t130,t131,t132,t133,s134,s135,s136,s137,s138,s139,s140,s141,s142,s143,s144,s145,s146,s147],defers:= []}
theorem lk29{Q:Exit→Act→World→Prop}{wr:World}{g k:Nat}{PX n vc:Nat}{val:St}{pa:Option Addr}{pc:Nat}{ps:List Prp}{s0 s1 s2 s4 s5 s6 s9 s10 s11 s12 s13 s14 s15 s16 s17 s18 s19 s20 s21 s22 s23 s24 s25 s26 s27 s28 s29 s30 s31 s32 s33 s34 s35 s36 s37 s38 s39 s40 s41 s42 s43 s44 s45 s46 s47 s48 s49 s50 s51 s52 s53 s54 s55 s56 s57 s58 s59 s60 s61 s62 s63 s64 s65 s66 s67 s68 s69 s70 s71 s72 s73 s74 s75 s76 s77 s78 s79 s80 s81 s82 s83 s84 s85 s86 s87 s88 s89 s90 s91 s92 s93 s94 s95 s96 s97 s98 s99 s100 s101 s102 s103 s104 s105 s106 s107 s108 s109 s110 s111 s112 s113 s114 s115 s116 s117 s118 s119 s120 s121 s122 s123 s124 s125 s126 s127 s128 s129 s130 s131 s132 s133 s134 s135 s136 s137 s138 s139 s140 s141 s142 s143 s144 s145 s146 s147:Value}(hpx:Row wr PX 31 [.slice (some ⟨g,0,none⟩) n vc])(hk:k<n)(hc:wr.cell? ⟨g,k*3+2,none⟩=some (.slice pa ps.length pc))(hfr:∀W,Gr wr W→W.frozen? ⟨g,k*3+2,none⟩=false)(hsl:SlOf 2 RPrp wr pa ps)(hb:ps.length≤1000∧(∀q∈ps,q.name.length≤1000∧q.val.length≤100000)∧ps.length≤pc)
  (h':∀t121 t122 t123 t124 t125 t126 t127 t128 t129 t130 t131 t132 t133 wx,Fin7 wr g k (putP ps ⟨[99,108,111,99,107,115],val⟩) wx→Q .normal (lk29A PX k val t121 t122 t123 t124 t125 t126 t127 t128 t129 t130 t131 t132 t133 s0 s1 s2 s4 s5 s6 s9 s10 s11 s12 s13 s14 s15 s16 s17 s18 s19 s20 s21 s22 s23 s24 s25 s26 s27 s28 s29 s30 s31 s32 s33 s34 s35 s36 s37 s38 s39 s40 s41 s42 s43 s44 s45 s46 s47 s48 s49 s50 s51 s52 s53 s54 s55 s56 s57 s58 s59 s60 s61 s62 s63 s64 s65 s66 s67 s68 s69 s70 s71 s72 s73 s74 s75 s76 s77 s78 s79 s80 s81 s82 s83 s84 s85 s86 s87 s88 s89 s90 s91 s92 s93 s94 s95 s96 s97 s98 s99 s100 s101 s102 s103 s104 s105 s106 s107 s108 s109 s110 s111 s112 s113 s114 s115 s116 s117 s118 s119 s120 s134 s135 s136 s137 s138 s139 s140 s141 s142 s143 s144 s145 s146 s147) wx):
  (Code.region 29 (regIn 29 Tryz.f12) true).wp Tryz.prog Q {tmps:= #[s0,s1,s2,.pointer (some ⟨PX,0,none⟩),s4,s5,s6,.int .i64 (k:Int),.string (bs val),s9,s10,s11,s12,s13,s14,s15,s16,s17,s18,s19,s20,s21,s22,s23,s24,s25,s26,s27,s28,s29,s30,s31,s32,s33,s34,s35,s36,s37,s38,s39,s40,s41,s42,s43,s44,s45,s46,s47,s48,s49,s50,s51,s52,s53,s54,s55,s56,s57,s58,s59,s60,s61,s62,s63,s64,s65,s66,s67,s68,s69,s70,s71,s72,s73,s74,s75,s76,s77,s78,s79,s80,s81,s82,s83,s84,s85,s86,s87,s88,s89,s90,s91,s92,s93,s94,s95,s96,s97,s98,s99,s100,s101,s102,s103,s104,s105,s106,s107,s108,s109,s110,s111,s112,s113,s114,s115,s116,s117,s118,s119,s120,s121,s122,s123,s124,s125,s126,s127,s128,s129,s130,s131,s132,s133,s134,s135,s136,s137,s138,s139,s140,s141,s142,s143,s144,s145,s146,s147],defers:= []} wr:=by
 have HPX:=PLift.up hpx
 have HK0:=PLift.up hk
 have HC:=PLift.up hc
 have HFR:=PLift.up hfr
 have HSL:=PLift.up hsl
 have HB:=PLift.up hb
 clear hpx hk hc hfr hsl hb
 simp only[regIn,Tryz.f12,regOps,Option.bind_some,Option.getD_some,Nat.beq,cond_true,cond_false]
 refine wp_region_steps (fun done a w=>∃t121 t122 t123 t124 t125 t126 t127 t128 t129 t130 t131 t132 t133,a=lk29A PX k val t121 t122 t123 t124 t125 t126 t127 t128 t129 t130 t131 t132 t133 s0 s1 s2 s4 s5 s6 s9 s10 s11 s12 s13 s14 s15 s16 s17 s18 s19 s20 s21 s22 s23 s24 s25 s26 s27 s28 s29 s30 s31 s32 s33 s34 s35 s36 s37 s38 s39 s40 s41 s42 s43 s44 s45 s46 s47 s48 s49 s50 s51 s52 s53 s54 s55 s56 s57 s58 s59 s60 s61 s62 s63 s64 s65 s66 s67 s68 s69 s70 s71 s72 s73 s74 s75 s76 s77 s78 s79 s80 s81 s82 s83 s84 s85 s86 s87 s88 s89 s90 s91 s92 s93 s94 s95 s96 s97 s98 s99 s100 s101 s102 s103 s104 s105 s106 s107 s108 s109 s110 s111 s112 s113 s114 s115 s116 s117 s118 s119 s120 s134 s135 s136 s137 s138 s139 s140 s141 s142 s143 s144 s145 s146 s147∧lk29F wr g k PX n vc val pa pc ps t121 t122 t123 t124 t125 t126 t127 t128 t129 t130 t131 t132 t133 done w) (by kernel_rfl) (by kernel_rfl) ?_ ⟨?_,?_,?_,?_,?_,?_,?_,?_,?_,?_,?_,?_,?_,?_,trivial⟩ ?_
 ·exact⟨s121,s122,s123,s124,s125,s126,s127,s128,s129,s130,s131,s132,s133,rfl,fun _=>(Gr.refl _).drew,fun q=>absurd q (by decide),fun q=>absurd q (by decide),fun q=>absurd q (by decide),fun q=>absurd q (by decide),fun q=>absurd q (by decide),fun q=>absurd q (by decide),fun q=>absurd q (by decide),fun q=>absurd q (by decide),fun q=>absurd q (by decide),fun q=>absurd q (by decide),fun q=>absurd q (by decide),fun q=>absurd q (by decide),fun q=>absurd q (by decide),fun q=>absurd q (by decide)⟩
 ·rintro done a w hsz hnot hdep ⟨t121,t122,t123,t124,t125,t126,t127,t128,t129,t130,t131,t132,t133,rfl,gw,f0,f1,f2,f3,f4,f5,f6,f7,f8,f9,f10,f11,f12,f13⟩ K hK
  have hn:¬done.getD 0 false=true:=by rw[getD_both hnot];decide
  have nL:done.getD 13 false=false:=by
   cases e:done.getD 13 false with
   |false=>rfl
   |true=>exact absurd ((f13 e).1 0 (by decide) (by decide)) hn
  replace gw:=gw nL
  have px:=HPX.down.gr gw
  have c0:w.cell? ⟨PX,0,none⟩=some (.slice (some ⟨g,0,none⟩) n vc):=px.cell 0 (by simp)
  have ch:=has_of_cell c0
  clear px
  have HK:=PLift.up hK
  clear hK
  simp only[lk29A]
  go_simp
  have gg:Gr w w:=Gr.refl _
  refine HK.down _ _ ⟨_,_,_,_,_,_,_,_,_,_,_,_,_,rfl,fun _=>gw,fun _=>rfl,kp f1,kp f2,kp f3,kp f4,kp f5,kp f6,kp f7,kp f8,kp f9,fun q q2=>(let⟨x,c,e,h⟩:=f10 (done_old q (by decide)) nL;⟨x,c,e,Gr.owns h gg⟩),kp f11,kp f12,fun q=>absurd ((f13 (done_old q (by decide))).1 0 (by decide) (by decide)) hn⟩
 ·rintro done a w hsz hnot hdep ⟨t121,t122,t123,t124,t125,t126,t127,t128,t129,t130,t131,t132,t133,rfl,gw,f0,f1,f2,f3,f4,f5,f6,f7,f8,f9,f10,f11,f12,f13⟩ K hK
  have hn:¬done.getD 1 false=true:=by rw[getD_both hnot];decide
  have d0:=hdep 0 (by kernel_rfl)
  obtain rfl:=f0 d0
  have nL:done.getD 13 false=false:=by
   cases e:done.getD 13 false with
   |false=>rfl
   |true=>exact absurd ((f13 e).1 1 (by decide) (by decide)) hn
  replace gw:=gw nL
  have px:=HPX.down.gr gw
  have c0:w.cell? ⟨PX,0,none⟩=some (.slice (some ⟨g,0,none⟩) n vc):=px.cell 0 (by simp)
  have ch:=has_of_cell c0
  clear px
  have HK:=PLift.up hK
  clear hK d0
  simp only[lk29A]
  go_simp
  have gg:Gr w w:=Gr.refl _
  refine HK.down _ _ ⟨_,_,_,_,_,_,_,_,_,_,_,_,_,rfl,fun _=>gw,kp f0,fun _=>rfl,kp f2,kp f3,kp f4,kp f5,kp f6,kp f7,kp f8,kp f9,fun q q2=>(let⟨x,c,e,h⟩:=f10 (done_old q (by decide)) nL;⟨x,c,e,Gr.owns h gg⟩),kp f11,kp f12,fun q=>absurd ((f13 (done_old q (by decide))).1 1 (by decide) (by decide)) hn⟩
 ·rintro done a w hsz hnot hdep ⟨t121,t122,t123,t124,t125,t126,t127,t128,t129,t130,t131,t132,t133,rfl,gw,f0,f1,f2,f3,f4,f5,f6,f7,f8,f9,f10,f11,f12,f13⟩ K hK
  have hn:¬done.getD 2 false=true:=by rw[getD_both hnot];decide
  have nL:done.getD 13 false=false:=by
   cases e:done.getD 13 false with
   |false=>rfl
   |true=>exact absurd ((f13 e).1 2 (by decide) (by decide)) hn
  replace gw:=gw nL
  have HK:=PLift.up hK
  clear hK
  simp only[lk29A]
  go_simp
  have gg:Gr w w:=Gr.refl _
  refine HK.down _ _ ⟨_,_,_,_,_,_,_,_,_,_,_,_,_,rfl,fun _=>gw,kp f0,kp f1,fun _=>rfl,kp f3,kp f4,kp f5,kp f6,kp f7,kp f8,kp f9,fun q q2=>(let⟨x,c,e,h⟩:=f10 (done_old q (by decide)) nL;⟨x,c,e,Gr.owns h gg⟩),kp f11,kp f12,fun q=>absurd ((f13 (done_old q (by decide))).1 2 (by decide) (by decide)) hn⟩
 ·rintro done a w hsz hnot hdep ⟨t121,t122,t123,t124,t125,t126,t127,t128,t129,t130,t131,t132,t133,rfl,gw,f0,f1,f2,f3,f4,f5,f6,f7,f8,f9,f10,f11,f12,f13⟩ K hK
  have hn:¬done.getD 3 false=true:=by rw[getD_both hnot];decide
  have nL:done.getD 13 false=false:=by
   cases e:done.getD 13 false with
   |false=>rfl
   |true=>exact absurd ((f13 e).1 3 (by decide) (by decide)) hn
  replace gw:=gw nL
  have px:=HPX.down.gr gw
  have c0:w.cell? ⟨PX,0,none⟩=some (.slice (some ⟨g,0,none⟩) n vc):=px.cell 0 (by simp)
  have ch:=has_of_cell c0
  clear px
  have HK:=PLift.up hK
  clear hK
  simp only[lk29A]
  go_simp
  have gg:Gr w w:=Gr.refl _
  refine HK.down _ _ ⟨_,_,_,_,_,_,_,_,_,_,_,_,_,rfl,fun _=>gw,kp f0,kp f1,kp f2,fun _=>rfl,kp f4,kp f5,kp f6,kp f7,kp f8,kp f9,fun q q2=>(let⟨x,c,e,h⟩:=f10 (done_old q (by decide)) nL;⟨x,c,e,Gr.owns h gg⟩),kp f11,kp f12,fun q=>absurd ((f13 (done_old q (by decide))).1 3 (by decide) (by decide)) hn⟩
 ·rintro done a w hsz hnot hdep ⟨t121,t122,t123,t124,t125,t126,t127,t128,t129,t130,t131,t132,t133,rfl,gw,f0,f1,f2,f3,f4,f5,f6,f7,f8,f9,f10,f11,f12,f13⟩ K hK
  have hn:¬done.getD 4 false=true:=by rw[getD_both hnot];decide
  have d3:=hdep 3 (by kernel_rfl)
  obtain rfl:=f3 d3
  have nL:done.getD 13 false=false:=by
   cases e:done.getD 13 false with
   |false=>rfl
   |true=>exact absurd ((f13 e).1 4 (by decide) (by decide)) hn
  replace gw:=gw nL
  have px:=HPX.down.gr gw
  have c0:w.cell? ⟨PX,0,none⟩=some (.slice (some ⟨g,0,none⟩) n vc):=px.cell 0 (by simp)
  have ch:=has_of_cell c0
  clear px
  have HK:=PLift.up hK
  clear hK d3
  simp only[lk29A]
  go_simp
  have gg:Gr w w:=Gr.refl _
  refine HK.down _ _ ⟨_,_,_,_,_,_,_,_,_,_,_,_,_,rfl,fun _=>gw,kp f0,kp f1,kp f2,kp f3,fun _=>rfl,kp f5,kp f6,kp f7,kp f8,kp f9,fun q q2=>(let⟨x,c,e,h⟩:=f10 (done_old q (by decide)) nL;⟨x,c,e,Gr.owns h gg⟩),kp f11,kp f12,fun q=>absurd ((f13 (done_old q (by decide))).1 4 (by decide) (by decide)) hn⟩
 ·rintro done a w hsz hnot hdep ⟨t121,t122,t123,t124,t125,t126,t127,t128,t129,t130,t131,t132,t133,rfl,gw,f0,f1,f2,f3,f4,f5,f6,f7,f8,f9,f10,f11,f12,f13⟩ K hK
  have hn:¬done.getD 5 false=true:=by rw[getD_both hnot];decide
  have nL:done.getD 13 false=false:=by
   cases e:done.getD 13 false with
   |false=>rfl
   |true=>exact absurd ((f13 e).1 5 (by decide) (by decide)) hn
  replace gw:=gw nL
  have HK:=PLift.up hK
  clear hK
  simp only[lk29A]
  go_simp
  have gg:Gr w w:=Gr.refl _
  refine HK.down _ _ ⟨_,_,_,_,_,_,_,_,_,_,_,_,_,rfl,fun _=>gw,kp f0,kp f1,kp f2,kp f3,kp f4,fun _=>rfl,kp f6,kp f7,kp f8,kp f9,fun q q2=>(let⟨x,c,e,h⟩:=f10 (done_old q (by decide)) nL;⟨x,c,e,Gr.owns h gg⟩),kp f11,kp f12,fun q=>absurd ((f13 (done_old q (by decide))).1 5 (by decide) (by decide)) hn⟩
 ·rintro done a w hsz hnot hdep ⟨t121,t122,t123,t124,t125,t126,t127,t128,t129,t130,t131,t132,t133,rfl,gw,f0,f1,f2,f3,f4,f5,f6,f7,f8,f9,f10,f11,f12,f13⟩ K hK
  have hn:¬done.getD 6 false=true:=by rw[getD_both hnot];decide
  have d4:=hdep 4 (by kernel_rfl)
  have d5:=hdep 5 (by kernel_rfl)
  obtain rfl:=f4 d4
  obtain rfl:=f5 d5
  have nL:done.getD 13 false=false:=by
   cases e:done.getD 13 false with
   |false=>rfl
   |true=>exact absurd ((f13 e).1 6 (by decide) (by decide)) hn
  replace gw:=gw nL
  have k1:=HK0.down
  have k2:(k:Int)<n:=by omega
  have HK:=PLift.up hK
  clear hK d4 d5
  simp only[lk29A]
  go_simp
  have gg:Gr w w:=Gr.refl _
  refine HK.down _ _ ⟨_,_,_,_,_,_,_,_,_,_,_,_,_,rfl,fun _=>gw,kp f0,kp f1,kp f2,kp f3,kp f4,kp f5,fun _=>rfl,kp f7,kp f8,kp f9,fun q q2=>(let⟨x,c,e,h⟩:=f10 (done_old q (by decide)) nL;⟨x,c,e,Gr.owns h gg⟩),kp f11,kp f12,fun q=>absurd ((f13 (done_old q (by decide))).1 6 (by decide) (by decide)) hn⟩
 ·rintro done a w hsz hnot hdep ⟨t121,t122,t123,t124,t125,t126,t127,t128,t129,t130,t131,t132,t133,rfl,gw,f0,f1,f2,f3,f4,f5,f6,f7,f8,f9,f10,f11,f12,f13⟩ K hK
  have hn:¬done.getD 7 false=true:=by rw[getD_both hnot];decide
  have d6:=hdep 6 (by kernel_rfl)
  obtain rfl:=f6 d6
  have nL:done.getD 13 false=false:=by
   cases e:done.getD 13 false with
   |false=>rfl
   |true=>exact absurd ((f13 e).1 7 (by decide) (by decide)) hn
  replace gw:=gw nL
  have c0:=cell_gr gw HC.down
  have ch:=has_of_cell c0
  have HK:=PLift.up hK
  clear hK d6
  simp only[lk29A]
  go_simp
  have gg:Gr w w:=Gr.refl _
  refine HK.down _ _ ⟨_,_,_,_,_,_,_,_,_,_,_,_,_,rfl,fun _=>gw,kp f0,kp f1,kp f2,kp f3,kp f4,kp f5,kp f6,fun _=>rfl,kp f8,kp f9,fun q q2=>(let⟨x,c,e,h⟩:=f10 (done_old q (by decide)) nL;⟨x,c,e,Gr.owns h gg⟩),kp f11,kp f12,fun q=>absurd ((f13 (done_old q (by decide))).1 7 (by decide) (by decide)) hn⟩
 ·rintro done a w hsz hnot hdep ⟨t121,t122,t123,t124,t125,t126,t127,t128,t129,t130,t131,t132,t133,rfl,gw,f0,f1,f2,f3,f4,f5,f6,f7,f8,f9,f10,f11,f12,f13⟩ K hK
  have hn:¬done.getD 8 false=true:=by rw[getD_both hnot];decide
  have d7:=hdep 7 (by kernel_rfl)
  obtain rfl:=f7 d7
  have nL:done.getD 13 false=false:=by
   cases e:done.getD 13 false with
   |false=>rfl
   |true=>exact absurd ((f13 e).1 8 (by decide) (by decide)) hn
  replace gw:=gw nL
  have c0:=cell_gr gw HC.down
  have ch:=has_of_cell c0
  have HK:=PLift.up hK
  clear hK d7
  simp only[lk29A]
  go_simp
  have gg:Gr w w:=Gr.refl _
  refine HK.down _ _ ⟨_,_,_,_,_,_,_,_,_,_,_,_,_,rfl,fun _=>gw,kp f0,kp f1,kp f2,kp f3,kp f4,kp f5,kp f6,kp f7,fun _=>rfl,kp f9,fun q q2=>(let⟨x,c,e,h⟩:=f10 (done_old q (by decide)) nL;⟨x,c,e,Gr.owns h gg⟩),kp f11,kp f12,fun q=>absurd ((f13 (done_old q (by decide))).1 8 (by decide) (by decide)) hn⟩
 ·rintro done a w hsz hnot hdep ⟨t121,t122,t123,t124,t125,t126,t127,t128,t129,t130,t131,t132,t133,rfl,gw,f0,f1,f2,f3,f4,f5,f6,f7,f8,f9,f10,f11,f12,f13⟩ K hK
  have hn:¬done.getD 9 false=true:=by rw[getD_both hnot];decide
  have nL:done.getD 13 false=false:=by
   cases e:done.getD 13 false with
   |false=>rfl
   |true=>exact absurd ((f13 e).1 9 (by decide) (by decide)) hn
  replace gw:=gw nL
  have HK:=PLift.up hK
  clear hK
  simp only[lk29A]
  go_simp
  have gg:Gr w w:=Gr.refl _
  refine HK.down _ _ ⟨_,_,_,_,_,_,_,_,_,_,_,_,_,rfl,fun _=>gw,kp f0,kp f1,kp f2,kp f3,kp f4,kp f5,kp f6,kp f7,kp f8,fun _=>rfl,fun q q2=>(let⟨x,c,e,h⟩:=f10 (done_old q (by decide)) nL;⟨x,c,e,Gr.owns h gg⟩),kp f11,kp f12,fun q=>absurd ((f13 (done_old q (by decide))).1 9 (by decide) (by decide)) hn⟩
 ·rintro done a w hsz hnot hdep ⟨t121,t122,t123,t124,t125,t126,t127,t128,t129,t130,t131,t132,t133,rfl,gw,f0,f1,f2,f3,f4,f5,f6,f7,f8,f9,f10,f11,f12,f13⟩ K hK
  have hn:¬done.getD 10 false=true:=by rw[getD_both hnot];decide
  have d8:=hdep 8 (by kernel_rfl)
  have d9:=hdep 9 (by kernel_rfl)
  obtain rfl:=f8 d8
  obtain rfl:=f9 d9
  have nL:done.getD 13 false=false:=by
   cases e:done.getD 13 false with
   |false=>rfl
   |true=>exact absurd ((f13 e).1 10 (by decide) (by decide)) hn
  replace gw:=gw nL
  have GW:=PLift.up gw
  have GS:=PLift.up gw.size
  have HK:=PLift.up hK
  clear hK d8 d9
  simp only[lk29A]
  go_simp
  refine(put_any ps pa pc [99,108,111,99,107,115] val w (HSL.down.gr RPrp.mono GW.down) HB.down.1 HB.down.2.1 (by simp) HB.down.2.2).mono ?_
  rintro e w2 ⟨x,c,rfl,ho,hg⟩
  (try go_simp)
  refine HK.down _ _ ⟨_,_,_,_,_,_,_,_,_,_,_,_,_,rfl,fun _=>GW.down.trans hg,kp f0,kp f1,kp f2,kp f3,kp f4,kp f5,kp f6,kp f7,kp f8,kp f9,?_,kp f11,kp f12,fun q=>absurd ((f13 (done_old q (by decide))).1 10 (by decide) (by decide)) hn⟩
  exact fun _ _=>⟨x,c,rfl,owns_low ho GS.down⟩
 ·rintro done a w hsz hnot hdep ⟨t121,t122,t123,t124,t125,t126,t127,t128,t129,t130,t131,t132,t133,rfl,gw,f0,f1,f2,f3,f4,f5,f6,f7,f8,f9,f10,f11,f12,f13⟩ K hK
  have hn:¬done.getD 11 false=true:=by rw[getD_both hnot];decide
  have d1:=hdep 1 (by kernel_rfl)
  have d2:=hdep 2 (by kernel_rfl)
  obtain rfl:=f1 d1
  obtain rfl:=f2 d2
  have k1:=HK0.down
  have k2:(k:Int)<n:=by omega
  have HK:=PLift.up hK
  clear hK d1 d2
  simp only[lk29A]
  go_simp
  have gg:Gr w w:=Gr.refl _
  refine HK.down _ _ ⟨_,_,_,_,_,_,_,_,_,_,_,_,_,rfl,fun q=>gw (by rw[getD_set_ne false (by decide)] at q;exact q),kp f0,kp f1,kp f2,kp f3,kp f4,kp f5,kp f6,kp f7,kp f8,kp f9,fun q q2=>(let⟨x,c,e,h⟩:=f10 (done_old q (by decide)) (by rw[getD_set_ne false (by decide)] at q2;exact q2);⟨x,c,e,Gr.owns h gg⟩),fun _=>rfl,kp f12,fun q=>⟨fun j hj hne=>getD_set_true ((f13 (done_old q (by decide))).1 j hj hne),(f13 (done_old q (by decide))).2⟩⟩
 ·rintro done a w hsz hnot hdep ⟨t121,t122,t123,t124,t125,t126,t127,t128,t129,t130,t131,t132,t133,rfl,gw,f0,f1,f2,f3,f4,f5,f6,f7,f8,f9,f10,f11,f12,f13⟩ K hK
  have hn:¬done.getD 12 false=true:=by rw[getD_both hnot];decide
  have d11:=hdep 11 (by kernel_rfl)
  obtain rfl:=f11 d11
  have nL:done.getD 13 false=false:=by
   cases e:done.getD 13 false with
   |false=>rfl
   |true=>exact absurd ((f13 e).1 12 (by decide) (by decide)) hn
  replace gw:=gw nL
  have c0:=cell_gr gw HC.down
  have ch:=has_of_cell c0
  have HK:=PLift.up hK
  clear hK d11
  simp only[lk29A]
  go_simp
  have gg:Gr w w:=Gr.refl _
  refine HK.down _ _ ⟨_,_,_,_,_,_,_,_,_,_,_,_,_,rfl,fun _=>gw,kp f0,kp f1,kp f2,kp f3,kp f4,kp f5,kp f6,kp f7,kp f8,kp f9,fun q q2=>(let⟨x,c,e,h⟩:=f10 (done_old q (by decide)) nL;⟨x,c,e,Gr.owns h gg⟩),kp f11,fun _=>rfl,fun q=>absurd ((f13 (done_old q (by decide))).1 12 (by decide) (by decide)) hn⟩
 ·rintro done a w hsz hnot hdep ⟨t121,t122,t123,t124,t125,t126,t127,t128,t129,t130,t131,t132,t133,rfl,gw,f0,f1,f2,f3,f4,f5,f6,f7,f8,f9,f10,f11,f12,f13⟩ K hK
  have hn:¬done.getD 13 false=true:=by rw[getD_both hnot];decide
  have d0:=hdep 0 (by kernel_rfl)
  have d1:=hdep 1 (by kernel_rfl)
  have d2:=hdep 2 (by kernel_rfl)
  have d3:=hdep 3 (by kernel_rfl)
  have d4:=hdep 4 (by kernel_rfl)
  have d5:=hdep 5 (by kernel_rfl)
  have d6:=hdep 6 (by kernel_rfl)
  have d7:=hdep 7 (by kernel_rfl)
  have d8:=hdep 8 (by kernel_rfl)
  have d9:=hdep 9 (by kernel_rfl)
  have d10:=hdep 10 (by kernel_rfl)
  have d12:=hdep 12 (by kernel_rfl)
  obtain rfl:=f0 d0
  obtain rfl:=f1 d1
  obtain rfl:=f2 d2
  obtain rfl:=f3 d3
  obtain rfl:=f4 d4
  obtain rfl:=f5 d5
  obtain rfl:=f6 d6
  obtain rfl:=f7 d7
  obtain rfl:=f8 d8
  obtain rfl:=f9 d9
  obtain rfl:=f12 d12
  have nL:=getD_both hnot
  obtain⟨x,c,rfl,ho⟩:=f10 d10 nL
  have g1:=gw nL
  have c2:=cell_gr g1 HC.down
  have ch:=has_of_cell c2
  have cf:=HFR.down w g1
  have FN:=PLift.up (show Fin7 wr g k (putP ps ⟨[99,108,111,99,107,115],val⟩) (w.setCell ⟨g,k*3+2,none⟩ (.slice x (putP ps ⟨[99,108,111,99,107,115],val⟩).length c)) from⟨w,x,c,rfl,g1,ho⟩)
  have DD:=PLift.up (show∀j,j<13→j≠11→done.getD j false=true from by intro j hj hne;match j,hj,hne with|0,_,_=>exact d0|1,_,_=>exact d1|2,_,_=>exact d2|3,_,_=>exact d3|4,_,_=>exact d4|5,_,_=>exact d5|6,_,_=>exact d6|7,_,_=>exact d7|8,_,_=>exact d8|9,_,_=>exact d9|10,_,_=>exact d10|11,_,h=>exact absurd rfl h|12,_,_=>exact d12)
  have HK:=PLift.up hK
  clear hK d0 d1 d2 d3 d4 d5 d6 d7 d8 d9 d12
  simp only[lk29A]
  go_simp
  refine HK.down _ _ ⟨_,_,_,_,_,_,_,_,_,_,_,_,_,rfl,fun q=>absurd q (by rw[getD_set_same (by rw[hsz];decide)];decide),kp f0,kp f1,kp f2,kp f3,kp f4,kp f5,kp f6,kp f7,kp f8,kp f9,fun _ q2=>absurd q2 (by rw[getD_set_same (by rw[hsz];decide)];decide),kp f11,kp f12,?_⟩
  exact fun _=>⟨fun j hj hne=>getD_set_true (DD.down j hj hne),FN.down⟩
 ·rintro done a w hall ⟨t121,t122,t123,t124,t125,t126,t127,t128,t129,t130,t131,t132,t133,rfl,gw,f0,f1,f2,f3,f4,f5,f6,f7,f8,f9,f10,f11,f12,f13⟩
  exact h' _ _ _ _ _ _ _ _ _ _ _ _ _ w (f13 (hall 13 (by decide))).2
def lk30F(wr:World)(g k:Nat)(PX n vc:Nat)(pa:Option Addr)(pc:Nat)(ps:List Prp)(t134 t135 t136 t137 t138 t139 t140 t141 t142 t143 t144 t145:Value)(d:Array Bool)(w:World):Prop:=
 (d.getD 12 false=false→Gr wr w)∧(d.getD 0 false=true→t134= .pointer (some ⟨PX,0,none⟩))∧
 (d.getD 1 false=true→t135= .slice (some ⟨g,0,none⟩) n vc)∧
 (d.getD 2 false=true→t136= .int .i64 (k:Int))∧
 (d.getD 3 false=true→t137= .pointer (some ⟨PX,0,none⟩))∧
 (d.getD 4 false=true→t138= .slice (some ⟨g,0,none⟩) n vc)∧
 (d.getD 5 false=true→t139= .int .i64 (k:Int))∧
 (d.getD 6 false=true→t140= .pointer (some ⟨g,k*3,none⟩))∧
 (d.getD 7 false=true→t141= .pointer (some ⟨g,k*3+2,none⟩))∧
 (d.getD 8 false=true→t142= .slice pa ps.length pc)∧
 (d.getD 9 false=true→(d.getD 12 false=false→(∃x c,t143= .slice x (woP ps [99,108,111,99,107,115]).length c∧w.ownsRow wr.heap.size 89 2 (.slice x (woP ps [99,108,111,99,107,115]).length c) (woP ps [99,108,111,99,107,115]).length ((woP ps [99,108,111,99,107,115]).flatMap encP))))∧
 (d.getD 10 false=true→t144= .pointer (some ⟨g,k*3,none⟩))∧
 (d.getD 11 false=true→t145= .pointer (some ⟨g,k*3+2,none⟩))∧
 (d.getD 12 false=true→((∀j,j<12→j≠10→d.getD j false=true)∧Fin7 wr g k (woP ps [99,108,111,99,107,115]) w))
def lk30A(PX k:Nat)(t134 t135 t136 t137 t138 t139 t140 t141 t142 t143 t144 t145 s0 s1 s2 s4 s5 s6 s8 s9 s10 s11 s12 s13 s14 s15 s16 s17 s18 s19 s20 s21 s22 s23 s24 s25 s26 s27 s28 s29 s30 s31 s32 s33 s34 s35 s36 s37 s38 s39 s40 s41 s42 s43 s44 s45 s46 s47 s48 s49 s50 s51 s52 s53 s54 s55 s56 s57 s58 s59 s60 s61 s62 s63 s64 s65 s66 s67 s68 s69 s70 s71 s72 s73 s74 s75 s76 s77 s78 s79 s80 s81 s82 s83 s84 s85 s86 s87 s88 s89 s90 s91 s92 s93 s94 s95 s96 s97 s98 s99 s100 s101 s102 s103 s104 s105 s106 s107 s108 s109 s110 s111 s112 s113 s114 s115 s116 s117 s118 s119 s120 s121 s122 s123 s124 s125 s126 s127 s128 s129 s130 s131 s132 s133 s146 s147:Value):Act:={tmps:= #[s0,s1,s2,.pointer (some ⟨PX,0,none⟩),s4,s5,s6,.int .i64 (k:Int),s8,s9,s10,s11,s12,s13,s14,s15,s16,s17,s18,s19,s20,s21,s22,s23,s24,s25,s26,s27,s28,s29,s30,s31,s32,s33,s34,s35,s36,s37,s38,s39,s40,s41,s42,s43,s44,s45,s46,s47,s48,s49,s50,s51,s52,s53,s54,s55,s56,s57,s58,s59,s60,s61,s62,s63,s64,s65,s66,s67,s68,s69,s70,s71,s72,s73,s74,s75,s76,s77,s78,s79,s80,s81,s82,s83,s84,s85,s86,s87,s88,s89,s90,s91,s92,s93,s94,s95,s96,s97,s98,s99,s100,s101,s102,s103,s104,s105,s106,s107,s108,s109,s110,s111,s112,s113,s114,s115,s116,s117,s118,s119,s120,s121,s122,s123,s124,s125,s126,s127,s128,s129,s130,s131,s132,s133,t134,t135,t136,t137,t138,t139,t140,t141,t142,t143,t144,t145,s146,s147],defers:= []}
theorem lk30{Q:Exit→Act→World→Prop}{wr:World}{g k:Nat}{PX n vc:Nat}{pa:Option Addr}{pc:Nat}{ps:List Prp}{s0 s1 s2 s4 s5 s6 s8 s9 s10 s11 s12 s13 s14 s15 s16 s17 s18 s19 s20 s21 s22 s23 s24 s25 s26 s27 s28 s29 s30 s31 s32 s33 s34 s35 s36 s37 s38 s39 s40 s41 s42 s43 s44 s45 s46 s47 s48 s49 s50 s51 s52 s53 s54 s55 s56 s57 s58 s59 s60 s61 s62 s63 s64 s65 s66 s67 s68 s69 s70 s71 s72 s73 s74 s75 s76 s77 s78 s79 s80 s81 s82 s83 s84 s85 s86 s87 s88 s89 s90 s91 s92 s93 s94 s95 s96 s97 s98 s99 s100 s101 s102 s103 s104 s105 s106 s107 s108 s109 s110 s111 s112 s113 s114 s115 s116 s117 s118 s119 s120 s121 s122 s123 s124 s125 s126 s127 s128 s129 s130 s131 s132 s133 s134 s135 s136 s137 s138 s139 s140 s141 s142 s143 s144 s145 s146 s147:Value}(hpx:Row wr PX 31 [.slice (some ⟨g,0,none⟩) n vc])(hk:k<n)(hc:wr.cell? ⟨g,k*3+2,none⟩=some (.slice pa ps.length pc))(hfr:∀W,Gr wr W→W.frozen? ⟨g,k*3+2,none⟩=false)(hsl:SlOf 2 RPrp wr pa ps)(hb:ps.length≤1000∧(∀q∈ps,q.name.length≤1000∧q.val.length≤100000)∧ps.length≤pc)
  (h':∀t134 t135 t136 t137 t138 t139 t140 t141 t142 t143 t144 t145 wx,Fin7 wr g k (woP ps [99,108,111,99,107,115]) wx→Q .normal (lk30A PX k t134 t135 t136 t137 t138 t139 t140 t141 t142 t143 t144 t145 s0 s1 s2 s4 s5 s6 s8 s9 s10 s11 s12 s13 s14 s15 s16 s17 s18 s19 s20 s21 s22 s23 s24 s25 s26 s27 s28 s29 s30 s31 s32 s33 s34 s35 s36 s37 s38 s39 s40 s41 s42 s43 s44 s45 s46 s47 s48 s49 s50 s51 s52 s53 s54 s55 s56 s57 s58 s59 s60 s61 s62 s63 s64 s65 s66 s67 s68 s69 s70 s71 s72 s73 s74 s75 s76 s77 s78 s79 s80 s81 s82 s83 s84 s85 s86 s87 s88 s89 s90 s91 s92 s93 s94 s95 s96 s97 s98 s99 s100 s101 s102 s103 s104 s105 s106 s107 s108 s109 s110 s111 s112 s113 s114 s115 s116 s117 s118 s119 s120 s121 s122 s123 s124 s125 s126 s127 s128 s129 s130 s131 s132 s133 s146 s147) wx):
  (Code.region 30 (regIn 30 Tryz.f12) true).wp Tryz.prog Q {tmps:= #[s0,s1,s2,.pointer (some ⟨PX,0,none⟩),s4,s5,s6,.int .i64 (k:Int),s8,s9,s10,s11,s12,s13,s14,s15,s16,s17,s18,s19,s20,s21,s22,s23,s24,s25,s26,s27,s28,s29,s30,s31,s32,s33,s34,s35,s36,s37,s38,s39,s40,s41,s42,s43,s44,s45,s46,s47,s48,s49,s50,s51,s52,s53,s54,s55,s56,s57,s58,s59,s60,s61,s62,s63,s64,s65,s66,s67,s68,s69,s70,s71,s72,s73,s74,s75,s76,s77,s78,s79,s80,s81,s82,s83,s84,s85,s86,s87,s88,s89,s90,s91,s92,s93,s94,s95,s96,s97,s98,s99,s100,s101,s102,s103,s104,s105,s106,s107,s108,s109,s110,s111,s112,s113,s114,s115,s116,s117,s118,s119,s120,s121,s122,s123,s124,s125,s126,s127,s128,s129,s130,s131,s132,s133,s134,s135,s136,s137,s138,s139,s140,s141,s142,s143,s144,s145,s146,s147],defers:= []} wr:=by
 have HPX:=PLift.up hpx
 have HK0:=PLift.up hk
 have HC:=PLift.up hc
 have HFR:=PLift.up hfr
 have HSL:=PLift.up hsl
 have HB:=PLift.up hb
 clear hpx hk hc hfr hsl hb
 simp only[regIn,Tryz.f12,regOps,Option.bind_some,Option.getD_some,Nat.beq,cond_true,cond_false]
 refine wp_region_steps (fun done a w=>∃t134 t135 t136 t137 t138 t139 t140 t141 t142 t143 t144 t145,a=lk30A PX k t134 t135 t136 t137 t138 t139 t140 t141 t142 t143 t144 t145 s0 s1 s2 s4 s5 s6 s8 s9 s10 s11 s12 s13 s14 s15 s16 s17 s18 s19 s20 s21 s22 s23 s24 s25 s26 s27 s28 s29 s30 s31 s32 s33 s34 s35 s36 s37 s38 s39 s40 s41 s42 s43 s44 s45 s46 s47 s48 s49 s50 s51 s52 s53 s54 s55 s56 s57 s58 s59 s60 s61 s62 s63 s64 s65 s66 s67 s68 s69 s70 s71 s72 s73 s74 s75 s76 s77 s78 s79 s80 s81 s82 s83 s84 s85 s86 s87 s88 s89 s90 s91 s92 s93 s94 s95 s96 s97 s98 s99 s100 s101 s102 s103 s104 s105 s106 s107 s108 s109 s110 s111 s112 s113 s114 s115 s116 s117 s118 s119 s120 s121 s122 s123 s124 s125 s126 s127 s128 s129 s130 s131 s132 s133 s146 s147∧lk30F wr g k PX n vc pa pc ps t134 t135 t136 t137 t138 t139 t140 t141 t142 t143 t144 t145 done w) (by kernel_rfl) (by kernel_rfl) ?_ ⟨?_,?_,?_,?_,?_,?_,?_,?_,?_,?_,?_,?_,?_,trivial⟩ ?_
 ·exact⟨s134,s135,s136,s137,s138,s139,s140,s141,s142,s143,s144,s145,rfl,fun _=>(Gr.refl _).drew,fun q=>absurd q (by decide),fun q=>absurd q (by decide),fun q=>absurd q (by decide),fun q=>absurd q (by decide),fun q=>absurd q (by decide),fun q=>absurd q (by decide),fun q=>absurd q (by decide),fun q=>absurd q (by decide),fun q=>absurd q (by decide),fun q=>absurd q (by decide),fun q=>absurd q (by decide),fun q=>absurd q (by decide),fun q=>absurd q (by decide)⟩
 ·rintro done a w hsz hnot hdep ⟨t134,t135,t136,t137,t138,t139,t140,t141,t142,t143,t144,t145,rfl,gw,f0,f1,f2,f3,f4,f5,f6,f7,f8,f9,f10,f11,f12⟩ K hK
  have hn:¬done.getD 0 false=true:=by rw[getD_both hnot];decide
  have nL:done.getD 12 false=false:=by
   cases e:done.getD 12 false with
   |false=>rfl
   |true=>exact absurd ((f12 e).1 0 (by decide) (by decide)) hn
  replace gw:=gw nL
  have px:=HPX.down.gr gw
  have c0:w.cell? ⟨PX,0,none⟩=some (.slice (some ⟨g,0,none⟩) n vc):=px.cell 0 (by simp)
  have ch:=has_of_cell c0
  clear px
  have HK:=PLift.up hK
  clear hK
  simp only[lk30A]
  go_simp
  have gg:Gr w w:=Gr.refl _
  refine HK.down _ _ ⟨_,_,_,_,_,_,_,_,_,_,_,_,rfl,fun _=>gw,fun _=>rfl,kp f1,kp f2,kp f3,kp f4,kp f5,kp f6,kp f7,kp f8,fun q q2=>(let⟨x,c,e,h⟩:=f9 (done_old q (by decide)) nL;⟨x,c,e,Gr.owns h gg⟩),kp f10,kp f11,fun q=>absurd ((f12 (done_old q (by decide))).1 0 (by decide) (by decide)) hn⟩
 ·rintro done a w hsz hnot hdep ⟨t134,t135,t136,t137,t138,t139,t140,t141,t142,t143,t144,t145,rfl,gw,f0,f1,f2,f3,f4,f5,f6,f7,f8,f9,f10,f11,f12⟩ K hK
  have hn:¬done.getD 1 false=true:=by rw[getD_both hnot];decide
  have d0:=hdep 0 (by kernel_rfl)
  obtain rfl:=f0 d0
  have nL:done.getD 12 false=false:=by
   cases e:done.getD 12 false with
   |false=>rfl
   |true=>exact absurd ((f12 e).1 1 (by decide) (by decide)) hn
  replace gw:=gw nL
  have px:=HPX.down.gr gw
  have c0:w.cell? ⟨PX,0,none⟩=some (.slice (some ⟨g,0,none⟩) n vc):=px.cell 0 (by simp)
  have ch:=has_of_cell c0
  clear px
  have HK:=PLift.up hK
  clear hK d0
  simp only[lk30A]
  go_simp
  have gg:Gr w w:=Gr.refl _
  refine HK.down _ _ ⟨_,_,_,_,_,_,_,_,_,_,_,_,rfl,fun _=>gw,kp f0,fun _=>rfl,kp f2,kp f3,kp f4,kp f5,kp f6,kp f7,kp f8,fun q q2=>(let⟨x,c,e,h⟩:=f9 (done_old q (by decide)) nL;⟨x,c,e,Gr.owns h gg⟩),kp f10,kp f11,fun q=>absurd ((f12 (done_old q (by decide))).1 1 (by decide) (by decide)) hn⟩
 ·rintro done a w hsz hnot hdep ⟨t134,t135,t136,t137,t138,t139,t140,t141,t142,t143,t144,t145,rfl,gw,f0,f1,f2,f3,f4,f5,f6,f7,f8,f9,f10,f11,f12⟩ K hK
  have hn:¬done.getD 2 false=true:=by rw[getD_both hnot];decide
  have nL:done.getD 12 false=false:=by
   cases e:done.getD 12 false with
   |false=>rfl
   |true=>exact absurd ((f12 e).1 2 (by decide) (by decide)) hn
  replace gw:=gw nL
  have HK:=PLift.up hK
  clear hK
  simp only[lk30A]
  go_simp
  have gg:Gr w w:=Gr.refl _
  refine HK.down _ _ ⟨_,_,_,_,_,_,_,_,_,_,_,_,rfl,fun _=>gw,kp f0,kp f1,fun _=>rfl,kp f3,kp f4,kp f5,kp f6,kp f7,kp f8,fun q q2=>(let⟨x,c,e,h⟩:=f9 (done_old q (by decide)) nL;⟨x,c,e,Gr.owns h gg⟩),kp f10,kp f11,fun q=>absurd ((f12 (done_old q (by decide))).1 2 (by decide) (by decide)) hn⟩
 ·rintro done a w hsz hnot hdep ⟨t134,t135,t136,t137,t138,t139,t140,t141,t142,t143,t144,t145,rfl,gw,f0,f1,f2,f3,f4,f5,f6,f7,f8,f9,f10,f11,f12⟩ K hK
  have hn:¬done.getD 3 false=true:=by rw[getD_both hnot];decide
  have nL:done.getD 12 false=false:=by
   cases e:done.getD 12 false with
   |false=>rfl
   |true=>exact absurd ((f12 e).1 3 (by decide) (by decide)) hn
  replace gw:=gw nL
  have px:=HPX.down.gr gw
  have c0:w.cell? ⟨PX,0,none⟩=some (.slice (some ⟨g,0,none⟩) n vc):=px.cell 0 (by simp)
  have ch:=has_of_cell c0
  clear px
  have HK:=PLift.up hK
  clear hK
  simp only[lk30A]
  go_simp
  have gg:Gr w w:=Gr.refl _
  refine HK.down _ _ ⟨_,_,_,_,_,_,_,_,_,_,_,_,rfl,fun _=>gw,kp f0,kp f1,kp f2,fun _=>rfl,kp f4,kp f5,kp f6,kp f7,kp f8,fun q q2=>(let⟨x,c,e,h⟩:=f9 (done_old q (by decide)) nL;⟨x,c,e,Gr.owns h gg⟩),kp f10,kp f11,fun q=>absurd ((f12 (done_old q (by decide))).1 3 (by decide) (by decide)) hn⟩
 ·rintro done a w hsz hnot hdep ⟨t134,t135,t136,t137,t138,t139,t140,t141,t142,t143,t144,t145,rfl,gw,f0,f1,f2,f3,f4,f5,f6,f7,f8,f9,f10,f11,f12⟩ K hK
  have hn:¬done.getD 4 false=true:=by rw[getD_both hnot];decide
  have d3:=hdep 3 (by kernel_rfl)
  obtain rfl:=f3 d3
  have nL:done.getD 12 false=false:=by
   cases e:done.getD 12 false with
   |false=>rfl
   |true=>exact absurd ((f12 e).1 4 (by decide) (by decide)) hn
  replace gw:=gw nL
  have px:=HPX.down.gr gw
  have c0:w.cell? ⟨PX,0,none⟩=some (.slice (some ⟨g,0,none⟩) n vc):=px.cell 0 (by simp)
  have ch:=has_of_cell c0
  clear px
  have HK:=PLift.up hK
  clear hK d3
  simp only[lk30A]
  go_simp
  have gg:Gr w w:=Gr.refl _
  refine HK.down _ _ ⟨_,_,_,_,_,_,_,_,_,_,_,_,rfl,fun _=>gw,kp f0,kp f1,kp f2,kp f3,fun _=>rfl,kp f5,kp f6,kp f7,kp f8,fun q q2=>(let⟨x,c,e,h⟩:=f9 (done_old q (by decide)) nL;⟨x,c,e,Gr.owns h gg⟩),kp f10,kp f11,fun q=>absurd ((f12 (done_old q (by decide))).1 4 (by decide) (by decide)) hn⟩
 ·rintro done a w hsz hnot hdep ⟨t134,t135,t136,t137,t138,t139,t140,t141,t142,t143,t144,t145,rfl,gw,f0,f1,f2,f3,f4,f5,f6,f7,f8,f9,f10,f11,f12⟩ K hK
  have hn:¬done.getD 5 false=true:=by rw[getD_both hnot];decide
  have nL:done.getD 12 false=false:=by
   cases e:done.getD 12 false with
   |false=>rfl
   |true=>exact absurd ((f12 e).1 5 (by decide) (by decide)) hn
  replace gw:=gw nL
  have HK:=PLift.up hK
  clear hK
  simp only[lk30A]
  go_simp
  have gg:Gr w w:=Gr.refl _
  refine HK.down _ _ ⟨_,_,_,_,_,_,_,_,_,_,_,_,rfl,fun _=>gw,kp f0,kp f1,kp f2,kp f3,kp f4,fun _=>rfl,kp f6,kp f7,kp f8,fun q q2=>(let⟨x,c,e,h⟩:=f9 (done_old q (by decide)) nL;⟨x,c,e,Gr.owns h gg⟩),kp f10,kp f11,fun q=>absurd ((f12 (done_old q (by decide))).1 5 (by decide) (by decide)) hn⟩
 ·rintro done a w hsz hnot hdep ⟨t134,t135,t136,t137,t138,t139,t140,t141,t142,t143,t144,t145,rfl,gw,f0,f1,f2,f3,f4,f5,f6,f7,f8,f9,f10,f11,f12⟩ K hK
  have hn:¬done.getD 6 false=true:=by rw[getD_both hnot];decide
  have d4:=hdep 4 (by kernel_rfl)
  have d5:=hdep 5 (by kernel_rfl)
  obtain rfl:=f4 d4
  obtain rfl:=f5 d5
  have nL:done.getD 12 false=false:=by
   cases e:done.getD 12 false with
   |false=>rfl
   |true=>exact absurd ((f12 e).1 6 (by decide) (by decide)) hn
  replace gw:=gw nL
  have k1:=HK0.down
  have k2:(k:Int)<n:=by omega
  have HK:=PLift.up hK
  clear hK d4 d5
  simp only[lk30A]
  go_simp
  have gg:Gr w w:=Gr.refl _
  refine HK.down _ _ ⟨_,_,_,_,_,_,_,_,_,_,_,_,rfl,fun _=>gw,kp f0,kp f1,kp f2,kp f3,kp f4,kp f5,fun _=>rfl,kp f7,kp f8,fun q q2=>(let⟨x,c,e,h⟩:=f9 (done_old q (by decide)) nL;⟨x,c,e,Gr.owns h gg⟩),kp f10,kp f11,fun q=>absurd ((f12 (done_old q (by decide))).1 6 (by decide) (by decide)) hn⟩
 ·rintro done a w hsz hnot hdep ⟨t134,t135,t136,t137,t138,t139,t140,t141,t142,t143,t144,t145,rfl,gw,f0,f1,f2,f3,f4,f5,f6,f7,f8,f9,f10,f11,f12⟩ K hK
  have hn:¬done.getD 7 false=true:=by rw[getD_both hnot];decide
  have d6:=hdep 6 (by kernel_rfl)
  obtain rfl:=f6 d6
  have nL:done.getD 12 false=false:=by
   cases e:done.getD 12 false with
   |false=>rfl
   |true=>exact absurd ((f12 e).1 7 (by decide) (by decide)) hn
  replace gw:=gw nL
  have c0:=cell_gr gw HC.down
  have ch:=has_of_cell c0
  have HK:=PLift.up hK
  clear hK d6
  simp only[lk30A]
  go_simp
  have gg:Gr w w:=Gr.refl _
  refine HK.down _ _ ⟨_,_,_,_,_,_,_,_,_,_,_,_,rfl,fun _=>gw,kp f0,kp f1,kp f2,kp f3,kp f4,kp f5,kp f6,fun _=>rfl,kp f8,fun q q2=>(let⟨x,c,e,h⟩:=f9 (done_old q (by decide)) nL;⟨x,c,e,Gr.owns h gg⟩),kp f10,kp f11,fun q=>absurd ((f12 (done_old q (by decide))).1 7 (by decide) (by decide)) hn⟩
 ·rintro done a w hsz hnot hdep ⟨t134,t135,t136,t137,t138,t139,t140,t141,t142,t143,t144,t145,rfl,gw,f0,f1,f2,f3,f4,f5,f6,f7,f8,f9,f10,f11,f12⟩ K hK
  have hn:¬done.getD 8 false=true:=by rw[getD_both hnot];decide
  have d7:=hdep 7 (by kernel_rfl)
  obtain rfl:=f7 d7
  have nL:done.getD 12 false=false:=by
   cases e:done.getD 12 false with
   |false=>rfl
   |true=>exact absurd ((f12 e).1 8 (by decide) (by decide)) hn
  replace gw:=gw nL
  have c0:=cell_gr gw HC.down
  have ch:=has_of_cell c0
  have HK:=PLift.up hK
  clear hK d7
  simp only[lk30A]
  go_simp
  have gg:Gr w w:=Gr.refl _
  refine HK.down _ _ ⟨_,_,_,_,_,_,_,_,_,_,_,_,rfl,fun _=>gw,kp f0,kp f1,kp f2,kp f3,kp f4,kp f5,kp f6,kp f7,fun _=>rfl,fun q q2=>(let⟨x,c,e,h⟩:=f9 (done_old q (by decide)) nL;⟨x,c,e,Gr.owns h gg⟩),kp f10,kp f11,fun q=>absurd ((f12 (done_old q (by decide))).1 8 (by decide) (by decide)) hn⟩
 ·rintro done a w hsz hnot hdep ⟨t134,t135,t136,t137,t138,t139,t140,t141,t142,t143,t144,t145,rfl,gw,f0,f1,f2,f3,f4,f5,f6,f7,f8,f9,f10,f11,f12⟩ K hK
  have hn:¬done.getD 9 false=true:=by rw[getD_both hnot];decide
  have d8:=hdep 8 (by kernel_rfl)
  obtain rfl:=f8 d8
  have nL:done.getD 12 false=false:=by
   cases e:done.getD 12 false with
   |false=>rfl
   |true=>exact absurd ((f12 e).1 9 (by decide) (by decide)) hn
  replace gw:=gw nL
  have GW:=PLift.up gw
  have GS:=PLift.up gw.size
  have HK:=PLift.up hK
  clear hK d8
  simp only[lk30A]
  go_simp
  refine(rWithout_any ps pa pc [99,108,111,99,107,115] w (HSL.down.gr RPrp.mono GW.down) HB.down.1).mono ?_
  rintro e w2 ⟨v,rfl,ho,hg⟩
  obtain⟨x,c,rfl⟩:=owns_slice ho
  (try go_simp)
  refine HK.down _ _ ⟨_,_,_,_,_,_,_,_,_,_,_,_,rfl,fun _=>GW.down.trans hg,kp f0,kp f1,kp f2,kp f3,kp f4,kp f5,kp f6,kp f7,kp f8,?_,kp f10,kp f11,fun q=>absurd ((f12 (done_old q (by decide))).1 9 (by decide) (by decide)) hn⟩
  exact fun _ _=>⟨x,c,rfl,owns_low ho GS.down⟩
 ·rintro done a w hsz hnot hdep ⟨t134,t135,t136,t137,t138,t139,t140,t141,t142,t143,t144,t145,rfl,gw,f0,f1,f2,f3,f4,f5,f6,f7,f8,f9,f10,f11,f12⟩ K hK
  have hn:¬done.getD 10 false=true:=by rw[getD_both hnot];decide
  have d1:=hdep 1 (by kernel_rfl)
  have d2:=hdep 2 (by kernel_rfl)
  obtain rfl:=f1 d1
  obtain rfl:=f2 d2
  have k1:=HK0.down
  have k2:(k:Int)<n:=by omega
  have HK:=PLift.up hK
  clear hK d1 d2
  simp only[lk30A]
  go_simp
  have gg:Gr w w:=Gr.refl _
  refine HK.down _ _ ⟨_,_,_,_,_,_,_,_,_,_,_,_,rfl,fun q=>gw (by rw[getD_set_ne false (by decide)] at q;exact q),kp f0,kp f1,kp f2,kp f3,kp f4,kp f5,kp f6,kp f7,kp f8,fun q q2=>(let⟨x,c,e,h⟩:=f9 (done_old q (by decide)) (by rw[getD_set_ne false (by decide)] at q2;exact q2);⟨x,c,e,Gr.owns h gg⟩),fun _=>rfl,kp f11,fun q=>⟨fun j hj hne=>getD_set_true ((f12 (done_old q (by decide))).1 j hj hne),(f12 (done_old q (by decide))).2⟩⟩
 ·rintro done a w hsz hnot hdep ⟨t134,t135,t136,t137,t138,t139,t140,t141,t142,t143,t144,t145,rfl,gw,f0,f1,f2,f3,f4,f5,f6,f7,f8,f9,f10,f11,f12⟩ K hK
  have hn:¬done.getD 11 false=true:=by rw[getD_both hnot];decide
  have d10:=hdep 10 (by kernel_rfl)
  obtain rfl:=f10 d10
  have nL:done.getD 12 false=false:=by
   cases e:done.getD 12 false with
   |false=>rfl
   |true=>exact absurd ((f12 e).1 11 (by decide) (by decide)) hn
  replace gw:=gw nL
  have c0:=cell_gr gw HC.down
  have ch:=has_of_cell c0
  have HK:=PLift.up hK
  clear hK d10
  simp only[lk30A]
  go_simp
  have gg:Gr w w:=Gr.refl _
  refine HK.down _ _ ⟨_,_,_,_,_,_,_,_,_,_,_,_,rfl,fun _=>gw,kp f0,kp f1,kp f2,kp f3,kp f4,kp f5,kp f6,kp f7,kp f8,fun q q2=>(let⟨x,c,e,h⟩:=f9 (done_old q (by decide)) nL;⟨x,c,e,Gr.owns h gg⟩),kp f10,fun _=>rfl,fun q=>absurd ((f12 (done_old q (by decide))).1 11 (by decide) (by decide)) hn⟩
 ·rintro done a w hsz hnot hdep ⟨t134,t135,t136,t137,t138,t139,t140,t141,t142,t143,t144,t145,rfl,gw,f0,f1,f2,f3,f4,f5,f6,f7,f8,f9,f10,f11,f12⟩ K hK
  have hn:¬done.getD 12 false=true:=by rw[getD_both hnot];decide
  have d0:=hdep 0 (by kernel_rfl)
  have d1:=hdep 1 (by kernel_rfl)
  have d2:=hdep 2 (by kernel_rfl)
  have d3:=hdep 3 (by kernel_rfl)
  have d4:=hdep 4 (by kernel_rfl)
  have d5:=hdep 5 (by kernel_rfl)
  have d6:=hdep 6 (by kernel_rfl)
  have d7:=hdep 7 (by kernel_rfl)
  have d8:=hdep 8 (by kernel_rfl)
  have d9:=hdep 9 (by kernel_rfl)
  have d11:=hdep 11 (by kernel_rfl)
  obtain rfl:=f0 d0
  obtain rfl:=f1 d1
  obtain rfl:=f2 d2
  obtain rfl:=f3 d3
  obtain rfl:=f4 d4
  obtain rfl:=f5 d5
  obtain rfl:=f6 d6
  obtain rfl:=f7 d7
  obtain rfl:=f8 d8
  obtain rfl:=f11 d11
  have nL:=getD_both hnot
  obtain⟨x,c,rfl,ho⟩:=f9 d9 nL
  have g1:=gw nL
  have c2:=cell_gr g1 HC.down
  have ch:=has_of_cell c2
  have cf:=HFR.down w g1
  have FN:=PLift.up (show Fin7 wr g k (woP ps [99,108,111,99,107,115]) (w.setCell ⟨g,k*3+2,none⟩ (.slice x (woP ps [99,108,111,99,107,115]).length c)) from⟨w,x,c,rfl,g1,ho⟩)
  have DD:=PLift.up (show∀j,j<12→j≠10→done.getD j false=true from by intro j hj hne;match j,hj,hne with|0,_,_=>exact d0|1,_,_=>exact d1|2,_,_=>exact d2|3,_,_=>exact d3|4,_,_=>exact d4|5,_,_=>exact d5|6,_,_=>exact d6|7,_,_=>exact d7|8,_,_=>exact d8|9,_,_=>exact d9|10,_,h=>exact absurd rfl h|11,_,_=>exact d11)
  have HK:=PLift.up hK
  clear hK d0 d1 d2 d3 d4 d5 d6 d7 d8 d11
  simp only[lk30A]
  go_simp
  refine HK.down _ _ ⟨_,_,_,_,_,_,_,_,_,_,_,_,rfl,fun q=>absurd q (by rw[getD_set_same (by rw[hsz];decide)];decide),kp f0,kp f1,kp f2,kp f3,kp f4,kp f5,kp f6,kp f7,kp f8,fun _ q2=>absurd q2 (by rw[getD_set_same (by rw[hsz];decide)];decide),kp f10,kp f11,?_⟩
  exact fun _=>⟨fun j hj hne=>getD_set_true (DD.down j hj hne),FN.down⟩
 ·rintro done a w hall ⟨t134,t135,t136,t137,t138,t139,t140,t141,t142,t143,t144,t145,rfl,gw,f0,f1,f2,f3,f4,f5,f6,f7,f8,f9,f10,f11,f12⟩
  exact h' _ _ _ _ _ _ _ _ _ _ _ _ w (f12 (hall 12 (by decide))).2
end Go.Proofs.YtdjhnfopdlgliaaGreat
