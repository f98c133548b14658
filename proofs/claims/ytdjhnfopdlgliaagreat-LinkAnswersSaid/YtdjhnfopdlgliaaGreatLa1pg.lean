/- Lemmas and contracts for the proof of LinkAnswers (several texts in one, printed by wip/tools/pack.py): LqA VbA. -/
import Derived.Test.YtdjhnfopdlgliaaGreatLa1pf
import Derived.Laws.BitsAllLaws
import Derived.Laws.BitsLemmas
import Derived.Test.YtdjhnfopdlgliaaGreatLa1pd
set_option maxRecDepth 100000
set_option maxHeartbeats 16000000
set_option linter.unusedVariables false
set_option linter.unusedSimpArgs false
namespace Go.Proofs.YtdjhnfopdlgliaaGreat
open Go.RowKit
open Classical
def rc7F(wr wb:World)(x:Value)(zs:List Int)(c0 c1 c2 c3:UInt8)(v:St)(i:Nat)(t4 t21 t22 t23 t24 t25 t26 t27 t28 t29 t30 t31 t32 t33 t34 t35 t36 t37 t38 t39 t40 t41 t42 t43 t44 t45 t46 t47 t48:Value)(d:Array Bool)(w:World):Prop:=
 (Gr wb w∧(d.getD 28 false=false→t4=x)∧(d.getD 27 false=false→w.ownsRow wb.heap.size 3 1 x zs.length (nums zs)))∧(d.getD 0 false=true→t21=x)∧
 (d.getD 1 false=true→t22= .string (bs v))∧
 (d.getD 2 false=true→t23= .int .i64 (i:Int))∧
 (d.getD 3 false=true→t24= .int .u8 (c0.toNat:Int))∧
 (d.getD 4 false=true→t25= .int .i64 (c0.toNat:Int))∧
 (d.getD 5 false=true→t26= .int .i64 ((c0.toNat:Int)*16777216))∧
 (d.getD 6 false=true→t27= .string (bs v))∧
 (d.getD 7 false=true→t28= .int .i64 (i:Int))∧
 (d.getD 8 false=true→t29= .int .i64 ((i+1:Nat):Int))∧
 (d.getD 9 false=true→t30= .int .u8 (c1.toNat:Int))∧
 (d.getD 10 false=true→t31= .int .i64 (c1.toNat:Int))∧
 (d.getD 11 false=true→t32= .int .i64 ((c1.toNat:Int)*65536))∧
 (d.getD 12 false=true→t33= .int .i64 ((c0.toNat:Int)*16777216+(c1.toNat:Int)*65536))∧
 (d.getD 13 false=true→t34= .string (bs v))∧
 (d.getD 14 false=true→t35= .int .i64 (i:Int))∧
 (d.getD 15 false=true→t36= .int .i64 ((i+2:Nat):Int))∧
 (d.getD 16 false=true→t37= .int .u8 (c2.toNat:Int))∧
 (d.getD 17 false=true→t38= .int .i64 (c2.toNat:Int))∧
 (d.getD 18 false=true→t39= .int .i64 ((c2.toNat:Int)*256))∧
 (d.getD 19 false=true→t40= .int .i64 ((c0.toNat:Int)*16777216+(c1.toNat:Int)*65536+(c2.toNat:Int)*256))∧
 (d.getD 20 false=true→t41= .string (bs v))∧
 (d.getD 21 false=true→t42= .int .i64 (i:Int))∧
 (d.getD 22 false=true→t43= .int .i64 ((i+3:Nat):Int))∧
 (d.getD 23 false=true→t44= .int .u8 (c3.toNat:Int))∧
 (d.getD 24 false=true→t45= .int .i64 (c3.toNat:Int))∧
 (d.getD 25 false=true→t46= .int .i64 ((num4 c0 c1 c2 c3:Nat):Int))∧
 (d.getD 26 false=true→∃B,t47= .slice (some ⟨B,0,none⟩) 1 1∧(d.getD 27 false=false→Row w B 3 (nums [((num4 c0 c1 c2 c3:Nat):Int)])))∧
 (d.getD 27 false=true→(d.getD 0 false=true∧d.getD 26 false=true)∧w.ownsRow wb.heap.size 3 1 t48 (zs.length+1) (nums (zs++ [((num4 c0 c1 c2 c3:Nat):Int)])))∧
 (d.getD 28 false=true→d.getD 27 false=true∧t4=t48)
def rc7A(v:St)(i:Nat)(t4 t21 t22 t23 t24 t25 t26 t27 t28 t29 t30 t31 t32 t33 t34 t35 t36 t37 t38 t39 t40 t41 t42 t43 t44 t45 t46 t47 t48 s1 s2 s3 s6 s7 s8 s9 s10 s11 s12 s13 s14 s15 s16 s17 s18 s19 s20 s49:Value):Act:={tmps:= #[.string (bs v),s1,s2,s3,t4,.int .i64 (i:Int),s6,s7,s8,s9,s10,s11,s12,s13,s14,s15,s16,s17,s18,s19,s20,t21,t22,t23,t24,t25,t26,t27,t28,t29,t30,t31,t32,t33,t34,t35,t36,t37,t38,t39,t40,t41,t42,t43,t44,t45,t46,t47,t48,s49],defers:= []}
theorem rc7{Q:Exit→Act→World→Prop}{wr wb:World}{x:Value}{zs:List Int}{c0 c1 c2 c3:UInt8}{v:St}{i:Nat}{s1 s2 s3 s6 s7 s8 s9 s10 s11 s12 s13 s14 s15 s16 s17 s18 s19 s20 s21 s22 s23 s24 s25 s26 s27 s28 s29 s30 s31 s32 s33 s34 s35 s36 s37 s38 s39 s40 s41 s42 s43 s44 s45 s46 s47 s48 s49:Value}(h:wr.ownsRow wb.heap.size 3 1 x zs.length (nums zs))(hg0:Gr wb wr)(hn2:zs.length≤1000000)(hr:v.length≤1000000)(hi:i+3<v.length)(hc0:∀h:i<v.length,v[i]'h=c0)(hc1:∀h:i+1<v.length,v[i+1]'h=c1)(hc2:∀h:i+2<v.length,v[i+2]'h=c2)(hc3:∀h:i+3<v.length,v[i+3]'h=c3)
  (h':∀t4 t21 t22 t23 t24 t25 t26 t27 t28 t29 t30 t31 t32 t33 t34 t35 t36 t37 t38 t39 t40 t41 t42 t43 t44 t45 t46 t47 t48 wx,wx.ownsRow wb.heap.size 3 1 t4 (zs.length+1) (nums (zs++ [((num4 c0 c1 c2 c3:Nat):Int)]))→Gr wb wx→Q .normal (rc7A v i t4 t21 t22 t23 t24 t25 t26 t27 t28 t29 t30 t31 t32 t33 t34 t35 t36 t37 t38 t39 t40 t41 t42 t43 t44 t45 t46 t47 t48 s1 s2 s3 s6 s7 s8 s9 s10 s11 s12 s13 s14 s15 s16 s17 s18 s19 s20 s49) wx):
  (Code.region 7 (regIn 7 Tryz.f97) true).wp Tryz.prog Q {tmps:= #[.string (bs v),s1,s2,s3,x,.int .i64 (i:Int),s6,s7,s8,s9,s10,s11,s12,s13,s14,s15,s16,s17,s18,s19,s20,s21,s22,s23,s24,s25,s26,s27,s28,s29,s30,s31,s32,s33,s34,s35,s36,s37,s38,s39,s40,s41,s42,s43,s44,s45,s46,s47,s48,s49],defers:= []} wr:=by
 have H:=PLift.up h
 have b0:c0.toNat<256:=c0.toNat_lt
 have b1:c1.toNat<256:=c1.toNat_lt
 have b2:c2.toNat<256:=c2.toNat_lt
 have b3:c3.toNat<256:=c3.toNat_lt
 have w0:IntKind.i64.wrap (c0.toNat:Int)=(c0.toNat:Int):=wraps_i64s _ (by omega) (by omega)
 have w1:IntKind.i64.wrap (c1.toNat:Int)=(c1.toNat:Int):=wraps_i64s _ (by omega) (by omega)
 have w2:IntKind.i64.wrap (c2.toNat:Int)=(c2.toNat:Int):=wraps_i64s _ (by omega) (by omega)
 have w3:IntKind.i64.wrap (c3.toNat:Int)=(c3.toNat:Int):=wraps_i64s _ (by omega) (by omega)
 have v0:IntKind.i64.wrap ((c0.toNat:Int)*16777216)=(c0.toNat:Int)*16777216:=sh64 _ 16777216 (by omega)
 have v1:IntKind.i64.wrap ((c1.toNat:Int)*65536)=(c1.toNat:Int)*65536:=sh64 _ 65536 (by omega)
 have v2:IntKind.i64.wrap ((c2.toNat:Int)*256)=(c2.toNat:Int)*256:=sh64 _ 256 (by omega)
 have o1:bits BinOp.or IntKind.i64 ((c0.toNat:Int)*16777216) ((c1.toNat:Int)*65536)=(c0.toNat:Int)*16777216+(c1.toNat:Int)*65536:=by
  rw[show(c0.toNat:Int)*16777216=((c0.toNat*16777216:Nat):Int) by omega,show(c1.toNat:Int)*65536=((c1.toNat*65536:Nat):Int) by omega,or64 _ _ 24 (by omega) (by omega) (by omega) (by omega)]
  omega
 have o2:bits BinOp.or IntKind.i64 ((c0.toNat:Int)*16777216+(c1.toNat:Int)*65536) ((c2.toNat:Int)*256)=(c0.toNat:Int)*16777216+(c1.toNat:Int)*65536+(c2.toNat:Int)*256:=by
  rw[show(c0.toNat:Int)*16777216+(c1.toNat:Int)*65536=((c0.toNat*16777216+c1.toNat*65536:Nat):Int) by omega,show(c2.toNat:Int)*256=((c2.toNat*256:Nat):Int) by omega,or64 _ _ 16 (by omega) (by omega) (by omega) (by omega)]
  omega
 have o3:bits BinOp.or IntKind.i64 ((c0.toNat:Int)*16777216+(c1.toNat:Int)*65536+(c2.toNat:Int)*256) (c3.toNat:Int)=((num4 c0 c1 c2 c3:Nat):Int):=by
  rw[show(c0.toNat:Int)*16777216+(c1.toNat:Int)*65536+(c2.toNat:Int)*256=((c0.toNat*16777216+c1.toNat*65536+c2.toNat*256:Nat):Int) by omega,or64 _ _ 8 (by omega) (by omega) (by omega) (by omega)]
  rfl
 have LI:=PLift.up hi
 have HC0:=PLift.up hc0
 have HC1:=PLift.up hc1
 have HC2:=PLift.up hc2
 have HC3:=PLift.up hc3
 have AW1:=PLift.up (show IntKind.i64.wrap ((i:Int)+1)=(i:Int)+1 from Go.IntWalk.i64_in _ (by omega))
 have AW2:=PLift.up (show IntKind.i64.wrap ((i:Int)+2)=(i:Int)+2 from Go.IntWalk.i64_in _ (by omega))
 have AW3:=PLift.up (show IntKind.i64.wrap ((i:Int)+3)=(i:Int)+3 from Go.IntWalk.i64_in _ (by omega))
 have HW0:=PLift.up w0
 have HW1:=PLift.up w1
 have HW2:=PLift.up w2
 have HW3:=PLift.up w3
 have HV0:=PLift.up v0
 have HV1:=PLift.up v1
 have HV2:=PLift.up v2
 have HO1:=PLift.up o1
 have HO2:=PLift.up o2
 have HO3:=PLift.up o3
 have HB0:=PLift.up b0
 have HB1:=PLift.up b1
 have HB2:=PLift.up b2
 have HB3:=PLift.up b3
 clear w0 w1 w2 w3 v0 v1 v2 o1 o2 o3 b0 b1 b2 b3
 clear h hc0 hc1 hc2 hc3 hi hr
 obtain⟨j0,hj,hy0,hy1,hy2⟩:=info_parts infoInt
 simp only[regIn,Tryz.f97,regOps,Option.bind_some,Option.getD_some,Nat.beq,cond_true,cond_false]
 refine wp_region_steps (fun done a w=>∃t4 t21 t22 t23 t24 t25 t26 t27 t28 t29 t30 t31 t32 t33 t34 t35 t36 t37 t38 t39 t40 t41 t42 t43 t44 t45 t46 t47 t48,a=rc7A v i t4 t21 t22 t23 t24 t25 t26 t27 t28 t29 t30 t31 t32 t33 t34 t35 t36 t37 t38 t39 t40 t41 t42 t43 t44 t45 t46 t47 t48 s1 s2 s3 s6 s7 s8 s9 s10 s11 s12 s13 s14 s15 s16 s17 s18 s19 s20 s49∧rc7F wr wb x zs c0 c1 c2 c3 v i t4 t21 t22 t23 t24 t25 t26 t27 t28 t29 t30 t31 t32 t33 t34 t35 t36 t37 t38 t39 t40 t41 t42 t43 t44 t45 t46 t47 t48 done w) (by kernel_rfl) (by kernel_rfl) ?_ ⟨?_,?_,?_,?_,?_,?_,?_,?_,?_,?_,?_,?_,?_,?_,?_,?_,?_,?_,?_,?_,?_,?_,?_,?_,?_,?_,?_,?_,?_,trivial⟩ ?_
 ·exact⟨x,s21,s22,s23,s24,s25,s26,s27,s28,s29,s30,s31,s32,s33,s34,s35,s36,s37,s38,s39,s40,s41,s42,s43,s44,s45,s46,s47,s48,rfl,⟨hg0.drew,fun _=>rfl,fun _=>H.down⟩,fun q=>absurd q (by decide),fun q=>absurd q (by decide),fun q=>absurd q (by decide),fun q=>absurd q (by decide),fun q=>absurd q (by decide),fun q=>absurd q (by decide),fun q=>absurd q (by decide),fun q=>absurd q (by decide),fun q=>absurd q (by decide),fun q=>absurd q (by decide),fun q=>absurd q (by decide),fun q=>absurd q (by decide),fun q=>absurd q (by decide),fun q=>absurd q (by decide),fun q=>absurd q (by decide),fun q=>absurd q (by decide),fun q=>absurd q (by decide),fun q=>absurd q (by decide),fun q=>absurd q (by decide),fun q=>absurd q (by decide),fun q=>absurd q (by decide),fun q=>absurd q (by decide),fun q=>absurd q (by decide),fun q=>absurd q (by decide),fun q=>absurd q (by decide),fun q=>absurd q (by decide),fun q=>absurd q (by decide),fun q=>absurd q (by decide),fun q=>absurd q (by decide)⟩
 ·rintro done a w hsz hnot hdep ⟨t4,t21,t22,t23,t24,t25,t26,t27,t28,t29,t30,t31,t32,t33,t34,t35,t36,t37,t38,t39,t40,t41,t42,t43,t44,t45,t46,t47,t48,rfl,⟨gw,gx⟩,f0,f1,f2,f3,f4,f5,f6,f7,f8,f9,f10,f11,f12,f13,f14,f15,f16,f17,f18,f19,f20,f21,f22,f23,f24,f25,f26,f27,f28⟩ K hK
  have hn:¬done.getD 0 false=true:=by rw[getD_both hnot];decide
  have n21:done.getD 28 false=false:=by cases hz:done.getD 28 false with|false=>rfl|true=>exact absurd (f27 (f28 hz).1).1.1 hn
  obtain rfl:=gx.1 n21
  have HK:=PLift.up hK
  clear hK
  simp only[rc7A]
  go_simp
  have gg:Gr w w:=Gr.refl _
  refine HK.down _ _ ⟨_,_,_,_,_,_,_,_,_,_,_,_,_,_,_,_,_,_,_,_,_,_,_,_,_,_,_,_,_,rfl,⟨gw,fun q=>gx.1 (by rw[getD_set_ne false (by decide)] at q;exact q),fun q=>Gr.owns (gx.2 (by rw[getD_set_ne false (by decide)] at q;exact q)) gg⟩,?_,kp f1,kp f2,kp f3,kp f4,kp f5,kp f6,kp f7,kp f8,kp f9,kp f10,kp f11,kp f12,kp f13,kp f14,kp f15,kp f16,kp f17,kp f18,kp f19,kp f20,kp f21,kp f22,kp f23,kp f24,kp f25,fun q=>(let⟨B,e,h2⟩:=f26 (done_old q (by decide));⟨B,e,fun q2=>(h2 (by rw[getD_set_ne false (by decide)] at q2;exact q2)).gr gg⟩),fun q=>absurd (f27 (done_old q (by decide))).1.1 hn,fun q=>⟨getD_set_true (f28 (done_old q (by decide))).1,(f28 (done_old q (by decide))).2⟩⟩
  exact fun _=>rfl
 ·rintro done a w hsz hnot hdep ⟨t4,t21,t22,t23,t24,t25,t26,t27,t28,t29,t30,t31,t32,t33,t34,t35,t36,t37,t38,t39,t40,t41,t42,t43,t44,t45,t46,t47,t48,rfl,⟨gw,gx⟩,f0,f1,f2,f3,f4,f5,f6,f7,f8,f9,f10,f11,f12,f13,f14,f15,f16,f17,f18,f19,f20,f21,f22,f23,f24,f25,f26,f27,f28⟩ K hK
  have hn:¬done.getD 1 false=true:=by rw[getD_both hnot];decide
  have HK:=PLift.up hK
  clear hK
  simp only[rc7A]
  go_simp
  have gg:Gr w w:=Gr.refl _
  refine HK.down _ _ ⟨_,_,_,_,_,_,_,_,_,_,_,_,_,_,_,_,_,_,_,_,_,_,_,_,_,_,_,_,_,rfl,⟨gw,fun q=>gx.1 (by rw[getD_set_ne false (by decide)] at q;exact q),fun q=>Gr.owns (gx.2 (by rw[getD_set_ne false (by decide)] at q;exact q)) gg⟩,kp f0,fun _=>rfl,kp f2,kp f3,kp f4,kp f5,kp f6,kp f7,kp f8,kp f9,kp f10,kp f11,kp f12,kp f13,kp f14,kp f15,kp f16,kp f17,kp f18,kp f19,kp f20,kp f21,kp f22,kp f23,kp f24,kp f25,fun q=>(let⟨B,e,h2⟩:=f26 (done_old q (by decide));⟨B,e,fun q2=>(h2 (by rw[getD_set_ne false (by decide)] at q2;exact q2)).gr gg⟩),fun q=>⟨⟨getD_set_true (f27 (done_old q (by decide))).1.1,getD_set_true (f27 (done_old q (by decide))).1.2⟩,Gr.owns (f27 (done_old q (by decide))).2 gg⟩,fun q=>⟨getD_set_true (f28 (done_old q (by decide))).1,(f28 (done_old q (by decide))).2⟩⟩
 ·rintro done a w hsz hnot hdep ⟨t4,t21,t22,t23,t24,t25,t26,t27,t28,t29,t30,t31,t32,t33,t34,t35,t36,t37,t38,t39,t40,t41,t42,t43,t44,t45,t46,t47,t48,rfl,⟨gw,gx⟩,f0,f1,f2,f3,f4,f5,f6,f7,f8,f9,f10,f11,f12,f13,f14,f15,f16,f17,f18,f19,f20,f21,f22,f23,f24,f25,f26,f27,f28⟩ K hK
  have hn:¬done.getD 2 false=true:=by rw[getD_both hnot];decide
  have HK:=PLift.up hK
  clear hK
  simp only[rc7A]
  go_simp
  have gg:Gr w w:=Gr.refl _
  refine HK.down _ _ ⟨_,_,_,_,_,_,_,_,_,_,_,_,_,_,_,_,_,_,_,_,_,_,_,_,_,_,_,_,_,rfl,⟨gw,fun q=>gx.1 (by rw[getD_set_ne false (by decide)] at q;exact q),fun q=>Gr.owns (gx.2 (by rw[getD_set_ne false (by decide)] at q;exact q)) gg⟩,kp f0,kp f1,fun _=>rfl,kp f3,kp f4,kp f5,kp f6,kp f7,kp f8,kp f9,kp f10,kp f11,kp f12,kp f13,kp f14,kp f15,kp f16,kp f17,kp f18,kp f19,kp f20,kp f21,kp f22,kp f23,kp f24,kp f25,fun q=>(let⟨B,e,h2⟩:=f26 (done_old q (by decide));⟨B,e,fun q2=>(h2 (by rw[getD_set_ne false (by decide)] at q2;exact q2)).gr gg⟩),fun q=>⟨⟨getD_set_true (f27 (done_old q (by decide))).1.1,getD_set_true (f27 (done_old q (by decide))).1.2⟩,Gr.owns (f27 (done_old q (by decide))).2 gg⟩,fun q=>⟨getD_set_true (f28 (done_old q (by decide))).1,(f28 (done_old q (by decide))).2⟩⟩
 ·rintro done a w hsz hnot hdep ⟨t4,t21,t22,t23,t24,t25,t26,t27,t28,t29,t30,t31,t32,t33,t34,t35,t36,t37,t38,t39,t40,t41,t42,t43,t44,t45,t46,t47,t48,rfl,⟨gw,gx⟩,f0,f1,f2,f3,f4,f5,f6,f7,f8,f9,f10,f11,f12,f13,f14,f15,f16,f17,f18,f19,f20,f21,f22,f23,f24,f25,f26,f27,f28⟩ K hK
  have hn:¬done.getD 3 false=true:=by rw[getD_both hnot];decide
  have d1:=hdep 1 (by kernel_rfl)
  have d2:=hdep 2 (by kernel_rfl)
  obtain rfl:=f1 d1
  obtain rfl:=f2 d2
  have li:=LI.down
  have l4:(i:Int)<v.length:=by omega
  have l5:((i+0:Nat):Int)<v.length:=by omega
  clear li
  have HK:=PLift.up hK
  clear hK d1 d2
  simp only[rc7A]
  go_simp
  (try simp only[HC0.down])
  (try simp only[show((i:Int)+0).toNat=i+0 by omega,HC0.down])
  have gg:Gr w w:=Gr.refl _
  refine HK.down _ _ ⟨_,_,_,_,_,_,_,_,_,_,_,_,_,_,_,_,_,_,_,_,_,_,_,_,_,_,_,_,_,rfl,⟨gw,fun q=>gx.1 (by rw[getD_set_ne false (by decide)] at q;exact q),fun q=>Gr.owns (gx.2 (by rw[getD_set_ne false (by decide)] at q;exact q)) gg⟩,kp f0,kp f1,kp f2,fun _=>rfl,kp f4,kp f5,kp f6,kp f7,kp f8,kp f9,kp f10,kp f11,kp f12,kp f13,kp f14,kp f15,kp f16,kp f17,kp f18,kp f19,kp f20,kp f21,kp f22,kp f23,kp f24,kp f25,fun q=>(let⟨B,e,h2⟩:=f26 (done_old q (by decide));⟨B,e,fun q2=>(h2 (by rw[getD_set_ne false (by decide)] at q2;exact q2)).gr gg⟩),fun q=>⟨⟨getD_set_true (f27 (done_old q (by decide))).1.1,getD_set_true (f27 (done_old q (by decide))).1.2⟩,Gr.owns (f27 (done_old q (by decide))).2 gg⟩,fun q=>⟨getD_set_true (f28 (done_old q (by decide))).1,(f28 (done_old q (by decide))).2⟩⟩
 ·rintro done a w hsz hnot hdep ⟨t4,t21,t22,t23,t24,t25,t26,t27,t28,t29,t30,t31,t32,t33,t34,t35,t36,t37,t38,t39,t40,t41,t42,t43,t44,t45,t46,t47,t48,rfl,⟨gw,gx⟩,f0,f1,f2,f3,f4,f5,f6,f7,f8,f9,f10,f11,f12,f13,f14,f15,f16,f17,f18,f19,f20,f21,f22,f23,f24,f25,f26,f27,f28⟩ K hK
  have hn:¬done.getD 4 false=true:=by rw[getD_both hnot];decide
  have d3:=hdep 3 (by kernel_rfl)
  obtain rfl:=f3 d3
  have w0:=HW0.down
  have b0:=HB0.down
  have HK:=PLift.up hK
  clear hK d3
  simp only[rc7A]
  go_simp
  have gg:Gr w w:=Gr.refl _
  refine HK.down _ _ ⟨_,_,_,_,_,_,_,_,_,_,_,_,_,_,_,_,_,_,_,_,_,_,_,_,_,_,_,_,_,rfl,⟨gw,fun q=>gx.1 (by rw[getD_set_ne false (by decide)] at q;exact q),fun q=>Gr.owns (gx.2 (by rw[getD_set_ne false (by decide)] at q;exact q)) gg⟩,kp f0,kp f1,kp f2,kp f3,fun _=>rfl,kp f5,kp f6,kp f7,kp f8,kp f9,kp f10,kp f11,kp f12,kp f13,kp f14,kp f15,kp f16,kp f17,kp f18,kp f19,kp f20,kp f21,kp f22,kp f23,kp f24,kp f25,fun q=>(let⟨B,e,h2⟩:=f26 (done_old q (by decide));⟨B,e,fun q2=>(h2 (by rw[getD_set_ne false (by decide)] at q2;exact q2)).gr gg⟩),fun q=>⟨⟨getD_set_true (f27 (done_old q (by decide))).1.1,getD_set_true (f27 (done_old q (by decide))).1.2⟩,Gr.owns (f27 (done_old q (by decide))).2 gg⟩,fun q=>⟨getD_set_true (f28 (done_old q (by decide))).1,(f28 (done_old q (by decide))).2⟩⟩
 ·rintro done a w hsz hnot hdep ⟨t4,t21,t22,t23,t24,t25,t26,t27,t28,t29,t30,t31,t32,t33,t34,t35,t36,t37,t38,t39,t40,t41,t42,t43,t44,t45,t46,t47,t48,rfl,⟨gw,gx⟩,f0,f1,f2,f3,f4,f5,f6,f7,f8,f9,f10,f11,f12,f13,f14,f15,f16,f17,f18,f19,f20,f21,f22,f23,f24,f25,f26,f27,f28⟩ K hK
  have hn:¬done.getD 5 false=true:=by rw[getD_both hnot];decide
  have d4:=hdep 4 (by kernel_rfl)
  obtain rfl:=f4 d4
  have v0:=HV0.down
  have b0:=HB0.down
  have HK:=PLift.up hK
  clear hK d4
  simp only[rc7A]
  go_simp
  have gg:Gr w w:=Gr.refl _
  refine HK.down _ _ ⟨_,_,_,_,_,_,_,_,_,_,_,_,_,_,_,_,_,_,_,_,_,_,_,_,_,_,_,_,_,rfl,⟨gw,fun q=>gx.1 (by rw[getD_set_ne false (by decide)] at q;exact q),fun q=>Gr.owns (gx.2 (by rw[getD_set_ne false (by decide)] at q;exact q)) gg⟩,kp f0,kp f1,kp f2,kp f3,kp f4,fun _=>rfl,kp f6,kp f7,kp f8,kp f9,kp f10,kp f11,kp f12,kp f13,kp f14,kp f15,kp f16,kp f17,kp f18,kp f19,kp f20,kp f21,kp f22,kp f23,kp f24,kp f25,fun q=>(let⟨B,e,h2⟩:=f26 (done_old q (by decide));⟨B,e,fun q2=>(h2 (by rw[getD_set_ne false (by decide)] at q2;exact q2)).gr gg⟩),fun q=>⟨⟨getD_set_true (f27 (done_old q (by decide))).1.1,getD_set_true (f27 (done_old q (by decide))).1.2⟩,Gr.owns (f27 (done_old q (by decide))).2 gg⟩,fun q=>⟨getD_set_true (f28 (done_old q (by decide))).1,(f28 (done_old q (by decide))).2⟩⟩
 ·rintro done a w hsz hnot hdep ⟨t4,t21,t22,t23,t24,t25,t26,t27,t28,t29,t30,t31,t32,t33,t34,t35,t36,t37,t38,t39,t40,t41,t42,t43,t44,t45,t46,t47,t48,rfl,⟨gw,gx⟩,f0,f1,f2,f3,f4,f5,f6,f7,f8,f9,f10,f11,f12,f13,f14,f15,f16,f17,f18,f19,f20,f21,f22,f23,f24,f25,f26,f27,f28⟩ K hK
  have hn:¬done.getD 6 false=true:=by rw[getD_both hnot];decide
  have HK:=PLift.up hK
  clear hK
  simp only[rc7A]
  go_simp
  have gg:Gr w w:=Gr.refl _
  refine HK.down _ _ ⟨_,_,_,_,_,_,_,_,_,_,_,_,_,_,_,_,_,_,_,_,_,_,_,_,_,_,_,_,_,rfl,⟨gw,fun q=>gx.1 (by rw[getD_set_ne false (by decide)] at q;exact q),fun q=>Gr.owns (gx.2 (by rw[getD_set_ne false (by decide)] at q;exact q)) gg⟩,kp f0,kp f1,kp f2,kp f3,kp f4,kp f5,fun _=>rfl,kp f7,kp f8,kp f9,kp f10,kp f11,kp f12,kp f13,kp f14,kp f15,kp f16,kp f17,kp f18,kp f19,kp f20,kp f21,kp f22,kp f23,kp f24,kp f25,fun q=>(let⟨B,e,h2⟩:=f26 (done_old q (by decide));⟨B,e,fun q2=>(h2 (by rw[getD_set_ne false (by decide)] at q2;exact q2)).gr gg⟩),fun q=>⟨⟨getD_set_true (f27 (done_old q (by decide))).1.1,getD_set_true (f27 (done_old q (by decide))).1.2⟩,Gr.owns (f27 (done_old q (by decide))).2 gg⟩,fun q=>⟨getD_set_true (f28 (done_old q (by decide))).1,(f28 (done_old q (by decide))).2⟩⟩
 ·rintro done a w hsz hnot hdep ⟨t4,t21,t22,t23,t24,t25,t26,t27,t28,t29,t30,t31,t32,t33,t34,t35,t36,t37,t38,t39,t40,t41,t42,t43,t44,t45,t46,t47,t48,rfl,⟨gw,gx⟩,f0,f1,f2,f3,f4,f5,f6,f7,f8,f9,f10,f11,f12,f13,f14,f15,f16,f17,f18,f19,f20,f21,f22,f23,f24,f25,f26,f27,f28⟩ K hK
  have hn:¬done.getD 7 false=true:=by rw[getD_both hnot];decide
  have HK:=PLift.up hK
  clear hK
  simp only[rc7A]
  go_simp
  have gg:Gr w w:=Gr.refl _
  refine HK.down _ _ ⟨_,_,_,_,_,_,_,_,_,_,_,_,_,_,_,_,_,_,_,_,_,_,_,_,_,_,_,_,_,rfl,⟨gw,fun q=>gx.1 (by rw[getD_set_ne false (by decide)] at q;exact q),fun q=>Gr.owns (gx.2 (by rw[getD_set_ne false (by decide)] at q;exact q)) gg⟩,kp f0,kp f1,kp f2,kp f3,kp f4,kp f5,kp f6,fun _=>rfl,kp f8,kp f9,kp f10,kp f11,kp f12,kp f13,kp f14,kp f15,kp f16,kp f17,kp f18,kp f19,kp f20,kp f21,kp f22,kp f23,kp f24,kp f25,fun q=>(let⟨B,e,h2⟩:=f26 (done_old q (by decide));⟨B,e,fun q2=>(h2 (by rw[getD_set_ne false (by decide)] at q2;exact q2)).gr gg⟩),fun q=>⟨⟨getD_set_true (f27 (done_old q (by decide))).1.1,getD_set_true (f27 (done_old q (by decide))).1.2⟩,Gr.owns (f27 (done_old q (by decide))).2 gg⟩,fun q=>⟨getD_set_true (f28 (done_old q (by decide))).1,(f28 (done_old q (by decide))).2⟩⟩
 ·rintro done a w hsz hnot hdep ⟨t4,t21,t22,t23,t24,t25,t26,t27,t28,t29,t30,t31,t32,t33,t34,t35,t36,t37,t38,t39,t40,t41,t42,t43,t44,t45,t46,t47,t48,rfl,⟨gw,gx⟩,f0,f1,f2,f3,f4,f5,f6,f7,f8,f9,f10,f11,f12,f13,f14,f15,f16,f17,f18,f19,f20,f21,f22,f23,f24,f25,f26,f27,f28⟩ K hK
  have hn:¬done.getD 8 false=true:=by rw[getD_both hnot];decide
  have d7:=hdep 7 (by kernel_rfl)
  obtain rfl:=f7 d7
  have li:=LI.down
  have aw:=AW1.down
  have HK:=PLift.up hK
  clear hK d7
  simp only[rc7A]
  go_simp
  (try rw[show((i+1:Nat):Int)=(i:Int)+1 by omega])
  have gg:Gr w w:=Gr.refl _
  refine HK.down _ _ ⟨_,_,_,_,_,_,_,_,_,_,_,_,_,_,_,_,_,_,_,_,_,_,_,_,_,_,_,_,_,rfl,⟨gw,fun q=>gx.1 (by rw[getD_set_ne false (by decide)] at q;exact q),fun q=>Gr.owns (gx.2 (by rw[getD_set_ne false (by decide)] at q;exact q)) gg⟩,kp f0,kp f1,kp f2,kp f3,kp f4,kp f5,kp f6,kp f7,fun _=>rfl,kp f9,kp f10,kp f11,kp f12,kp f13,kp f14,kp f15,kp f16,kp f17,kp f18,kp f19,kp f20,kp f21,kp f22,kp f23,kp f24,kp f25,fun q=>(let⟨B,e,h2⟩:=f26 (done_old q (by decide));⟨B,e,fun q2=>(h2 (by rw[getD_set_ne false (by decide)] at q2;exact q2)).gr gg⟩),fun q=>⟨⟨getD_set_true (f27 (done_old q (by decide))).1.1,getD_set_true (f27 (done_old q (by decide))).1.2⟩,Gr.owns (f27 (done_old q (by decide))).2 gg⟩,fun q=>⟨getD_set_true (f28 (done_old q (by decide))).1,(f28 (done_old q (by decide))).2⟩⟩
 ·rintro done a w hsz hnot hdep ⟨t4,t21,t22,t23,t24,t25,t26,t27,t28,t29,t30,t31,t32,t33,t34,t35,t36,t37,t38,t39,t40,t41,t42,t43,t44,t45,t46,t47,t48,rfl,⟨gw,gx⟩,f0,f1,f2,f3,f4,f5,f6,f7,f8,f9,f10,f11,f12,f13,f14,f15,f16,f17,f18,f19,f20,f21,f22,f23,f24,f25,f26,f27,f28⟩ K hK
  have hn:¬done.getD 9 false=true:=by rw[getD_both hnot];decide
  have d6:=hdep 6 (by kernel_rfl)
  have d8:=hdep 8 (by kernel_rfl)
  obtain rfl:=f6 d6
  obtain rfl:=f8 d8
  have li:=LI.down
  have l4:(i:Int)+1<v.length:=by omega
  have l5:((i+1:Nat):Int)<v.length:=by omega
  clear li
  have HK:=PLift.up hK
  clear hK d6 d8
  simp only[rc7A]
  go_simp
  (try simp only[HC1.down])
  (try simp only[show((i:Int)+1).toNat=i+1 by omega,HC1.down])
  have gg:Gr w w:=Gr.refl _
  refine HK.down _ _ ⟨_,_,_,_,_,_,_,_,_,_,_,_,_,_,_,_,_,_,_,_,_,_,_,_,_,_,_,_,_,rfl,⟨gw,fun q=>gx.1 (by rw[getD_set_ne false (by decide)] at q;exact q),fun q=>Gr.owns (gx.2 (by rw[getD_set_ne false (by decide)] at q;exact q)) gg⟩,kp f0,kp f1,kp f2,kp f3,kp f4,kp f5,kp f6,kp f7,kp f8,fun _=>rfl,kp f10,kp f11,kp f12,kp f13,kp f14,kp f15,kp f16,kp f17,kp f18,kp f19,kp f20,kp f21,kp f22,kp f23,kp f24,kp f25,fun q=>(let⟨B,e,h2⟩:=f26 (done_old q (by decide));⟨B,e,fun q2=>(h2 (by rw[getD_set_ne false (by decide)] at q2;exact q2)).gr gg⟩),fun q=>⟨⟨getD_set_true (f27 (done_old q (by decide))).1.1,getD_set_true (f27 (done_old q (by decide))).1.2⟩,Gr.owns (f27 (done_old q (by decide))).2 gg⟩,fun q=>⟨getD_set_true (f28 (done_old q (by decide))).1,(f28 (done_old q (by decide))).2⟩⟩
 ·rintro done a w hsz hnot hdep ⟨t4,t21,t22,t23,t24,t25,t26,t27,t28,t29,t30,t31,t32,t33,t34,t35,t36,t37,t38,t39,t40,t41,t42,t43,t44,t45,t46,t47,t48,rfl,⟨gw,gx⟩,f0,f1,f2,f3,f4,f5,f6,f7,f8,f9,f10,f11,f12,f13,f14,f15,f16,f17,f18,f19,f20,f21,f22,f23,f24,f25,f26,f27,f28⟩ K hK
  have hn:¬done.getD 10 false=true:=by rw[getD_both hnot];decide
  have d9:=hdep 9 (by kernel_rfl)
  obtain rfl:=f9 d9
  have w1:=HW1.down
  have b1:=HB1.down
  have HK:=PLift.up hK
  clear hK d9
  simp only[rc7A]
  go_simp
  have gg:Gr w w:=Gr.refl _
  refine HK.down _ _ ⟨_,_,_,_,_,_,_,_,_,_,_,_,_,_,_,_,_,_,_,_,_,_,_,_,_,_,_,_,_,rfl,⟨gw,fun q=>gx.1 (by rw[getD_set_ne false (by decide)] at q;exact q),fun q=>Gr.owns (gx.2 (by rw[getD_set_ne false (by decide)] at q;exact q)) gg⟩,kp f0,kp f1,kp f2,kp f3,kp f4,kp f5,kp f6,kp f7,kp f8,kp f9,fun _=>rfl,kp f11,kp f12,kp f13,kp f14,kp f15,kp f16,kp f17,kp f18,kp f19,kp f20,kp f21,kp f22,kp f23,kp f24,kp f25,fun q=>(let⟨B,e,h2⟩:=f26 (done_old q (by decide));⟨B,e,fun q2=>(h2 (by rw[getD_set_ne false (by decide)] at q2;exact q2)).gr gg⟩),fun q=>⟨⟨getD_set_true (f27 (done_old q (by decide))).1.1,getD_set_true (f27 (done_old q (by decide))).1.2⟩,Gr.owns (f27 (done_old q (by decide))).2 gg⟩,fun q=>⟨getD_set_true (f28 (done_old q (by decide))).1,(f28 (done_old q (by decide))).2⟩⟩
 ·rintro done a w hsz hnot hdep ⟨t4,t21,t22,t23,t24,t25,t26,t27,t28,t29,t30,t31,t32,t33,t34,t35,t36,t37,t38,t39,t40,t41,t42,t43,t44,t45,t46,t47,t48,rfl,⟨gw,gx⟩,f0,f1,f2,f3,f4,f5,f6,f7,f8,f9,f10,f11,f12,f13,f14,f15,f16,f17,f18,f19,f20,f21,f22,f23,f24,f25,f26,f27,f28⟩ K hK
  have hn:¬done.getD 11 false=true:=by rw[getD_both hnot];decide
  have d10:=hdep 10 (by kernel_rfl)
  obtain rfl:=f10 d10
  have v1:=HV1.down
  have b1:=HB1.down
  have HK:=PLift.up hK
  clear hK d10
  simp only[rc7A]
  go_simp
  have gg:Gr w w:=Gr.refl _
  refine HK.down _ _ ⟨_,_,_,_,_,_,_,_,_,_,_,_,_,_,_,_,_,_,_,_,_,_,_,_,_,_,_,_,_,rfl,⟨gw,fun q=>gx.1 (by rw[getD_set_ne false (by decide)] at q;exact q),fun q=>Gr.owns (gx.2 (by rw[getD_set_ne false (by decide)] at q;exact q)) gg⟩,kp f0,kp f1,kp f2,kp f3,kp f4,kp f5,kp f6,kp f7,kp f8,kp f9,kp f10,fun _=>rfl,kp f12,kp f13,kp f14,kp f15,kp f16,kp f17,kp f18,kp f19,kp f20,kp f21,kp f22,kp f23,kp f24,kp f25,fun q=>(let⟨B,e,h2⟩:=f26 (done_old q (by decide));⟨B,e,fun q2=>(h2 (by rw[getD_set_ne false (by decide)] at q2;exact q2)).gr gg⟩),fun q=>⟨⟨getD_set_true (f27 (done_old q (by decide))).1.1,getD_set_true (f27 (done_old q (by decide))).1.2⟩,Gr.owns (f27 (done_old q (by decide))).2 gg⟩,fun q=>⟨getD_set_true (f28 (done_old q (by decide))).1,(f28 (done_old q (by decide))).2⟩⟩
 ·rintro done a w hsz hnot hdep ⟨t4,t21,t22,t23,t24,t25,t26,t27,t28,t29,t30,t31,t32,t33,t34,t35,t36,t37,t38,t39,t40,t41,t42,t43,t44,t45,t46,t47,t48,rfl,⟨gw,gx⟩,f0,f1,f2,f3,f4,f5,f6,f7,f8,f9,f10,f11,f12,f13,f14,f15,f16,f17,f18,f19,f20,f21,f22,f23,f24,f25,f26,f27,f28⟩ K hK
  have hn:¬done.getD 12 false=true:=by rw[getD_both hnot];decide
  have d5:=hdep 5 (by kernel_rfl)
  have d11:=hdep 11 (by kernel_rfl)
  obtain rfl:=f5 d5
  obtain rfl:=f11 d11
  have o1:=HO1.down
  have HK:=PLift.up hK
  clear hK d5 d11
  simp only[rc7A]
  go_simp
  have gg:Gr w w:=Gr.refl _
  refine HK.down _ _ ⟨_,_,_,_,_,_,_,_,_,_,_,_,_,_,_,_,_,_,_,_,_,_,_,_,_,_,_,_,_,rfl,⟨gw,fun q=>gx.1 (by rw[getD_set_ne false (by decide)] at q;exact q),fun q=>Gr.owns (gx.2 (by rw[getD_set_ne false (by decide)] at q;exact q)) gg⟩,kp f0,kp f1,kp f2,kp f3,kp f4,kp f5,kp f6,kp f7,kp f8,kp f9,kp f10,kp f11,fun _=>rfl,kp f13,kp f14,kp f15,kp f16,kp f17,kp f18,kp f19,kp f20,kp f21,kp f22,kp f23,kp f24,kp f25,fun q=>(let⟨B,e,h2⟩:=f26 (done_old q (by decide));⟨B,e,fun q2=>(h2 (by rw[getD_set_ne false (by decide)] at q2;exact q2)).gr gg⟩),fun q=>⟨⟨getD_set_true (f27 (done_old q (by decide))).1.1,getD_set_true (f27 (done_old q (by decide))).1.2⟩,Gr.owns (f27 (done_old q (by decide))).2 gg⟩,fun q=>⟨getD_set_true (f28 (done_old q (by decide))).1,(f28 (done_old q (by decide))).2⟩⟩
 ·rintro done a w hsz hnot hdep ⟨t4,t21,t22,t23,t24,t25,t26,t27,t28,t29,t30,t31,t32,t33,t34,t35,t36,t37,t38,t39,t40,t41,t42,t43,t44,t45,t46,t47,t48,rfl,⟨gw,gx⟩,f0,f1,f2,f3,f4,f5,f6,f7,f8,f9,f10,f11,f12,f13,f14,f15,f16,f17,f18,f19,f20,f21,f22,f23,f24,f25,f26,f27,f28⟩ K hK
  have hn:¬done.getD 13 false=true:=by rw[getD_both hnot];decide
  have HK:=PLift.up hK
  clear hK
  simp only[rc7A]
  go_simp
  have gg:Gr w w:=Gr.refl _
  refine HK.down _ _ ⟨_,_,_,_,_,_,_,_,_,_,_,_,_,_,_,_,_,_,_,_,_,_,_,_,_,_,_,_,_,rfl,⟨gw,fun q=>gx.1 (by rw[getD_set_ne false (by decide)] at q;exact q),fun q=>Gr.owns (gx.2 (by rw[getD_set_ne false (by decide)] at q;exact q)) gg⟩,kp f0,kp f1,kp f2,kp f3,kp f4,kp f5,kp f6,kp f7,kp f8,kp f9,kp f10,kp f11,kp f12,fun _=>rfl,kp f14,kp f15,kp f16,kp f17,kp f18,kp f19,kp f20,kp f21,kp f22,kp f23,kp f24,kp f25,fun q=>(let⟨B,e,h2⟩:=f26 (done_old q (by decide));⟨B,e,fun q2=>(h2 (by rw[getD_set_ne false (by decide)] at q2;exact q2)).gr gg⟩),fun q=>⟨⟨getD_set_true (f27 (done_old q (by decide))).1.1,getD_set_true (f27 (done_old q (by decide))).1.2⟩,Gr.owns (f27 (done_old q (by decide))).2 gg⟩,fun q=>⟨getD_set_true (f28 (done_old q (by decide))).1,(f28 (done_old q (by decide))).2⟩⟩
 ·rintro done a w hsz hnot hdep ⟨t4,t21,t22,t23,t24,t25,t26,t27,t28,t29,t30,t31,t32,t33,t34,t35,t36,t37,t38,t39,t40,t41,t42,t43,t44,t45,t46,t47,t48,rfl,⟨gw,gx⟩,f0,f1,f2,f3,f4,f5,f6,f7,f8,f9,f10,f11,f12,f13,f14,f15,f16,f17,f18,f19,f20,f21,f22,f23,f24,f25,f26,f27,f28⟩ K hK
  have hn:¬done.getD 14 false=true:=by rw[getD_both hnot];decide
  have HK:=PLift.up hK
  clear hK
  simp only[rc7A]
  go_simp
  have gg:Gr w w:=Gr.refl _
  refine HK.down _ _ ⟨_,_,_,_,_,_,_,_,_,_,_,_,_,_,_,_,_,_,_,_,_,_,_,_,_,_,_,_,_,rfl,⟨gw,fun q=>gx.1 (by rw[getD_set_ne false (by decide)] at q;exact q),fun q=>Gr.owns (gx.2 (by rw[getD_set_ne false (by decide)] at q;exact q)) gg⟩,kp f0,kp f1,kp f2,kp f3,kp f4,kp f5,kp f6,kp f7,kp f8,kp f9,kp f10,kp f11,kp f12,kp f13,fun _=>rfl,kp f15,kp f16,kp f17,kp f18,kp f19,kp f20,kp f21,kp f22,kp f23,kp f24,kp f25,fun q=>(let⟨B,e,h2⟩:=f26 (done_old q (by decide));⟨B,e,fun q2=>(h2 (by rw[getD_set_ne false (by decide)] at q2;exact q2)).gr gg⟩),fun q=>⟨⟨getD_set_true (f27 (done_old q (by decide))).1.1,getD_set_true (f27 (done_old q (by decide))).1.2⟩,Gr.owns (f27 (done_old q (by decide))).2 gg⟩,fun q=>⟨getD_set_true (f28 (done_old q (by decide))).1,(f28 (done_old q (by decide))).2⟩⟩
 ·rintro done a w hsz hnot hdep ⟨t4,t21,t22,t23,t24,t25,t26,t27,t28,t29,t30,t31,t32,t33,t34,t35,t36,t37,t38,t39,t40,t41,t42,t43,t44,t45,t46,t47,t48,rfl,⟨gw,gx⟩,f0,f1,f2,f3,f4,f5,f6,f7,f8,f9,f10,f11,f12,f13,f14,f15,f16,f17,f18,f19,f20,f21,f22,f23,f24,f25,f26,f27,f28⟩ K hK
  have hn:¬done.getD 15 false=true:=by rw[getD_both hnot];decide
  have d14:=hdep 14 (by kernel_rfl)
  obtain rfl:=f14 d14
  have li:=LI.down
  have aw:=AW2.down
  have HK:=PLift.up hK
  clear hK d14
  simp only[rc7A]
  go_simp
  (try rw[show((i+2:Nat):Int)=(i:Int)+2 by omega])
  have gg:Gr w w:=Gr.refl _
  refine HK.down _ _ ⟨_,_,_,_,_,_,_,_,_,_,_,_,_,_,_,_,_,_,_,_,_,_,_,_,_,_,_,_,_,rfl,⟨gw,fun q=>gx.1 (by rw[getD_set_ne false (by decide)] at q;exact q),fun q=>Gr.owns (gx.2 (by rw[getD_set_ne false (by decide)] at q;exact q)) gg⟩,kp f0,kp f1,kp f2,kp f3,kp f4,kp f5,kp f6,kp f7,kp f8,kp f9,kp f10,kp f11,kp f12,kp f13,kp f14,fun _=>rfl,kp f16,kp f17,kp f18,kp f19,kp f20,kp f21,kp f22,kp f23,kp f24,kp f25,fun q=>(let⟨B,e,h2⟩:=f26 (done_old q (by decide));⟨B,e,fun q2=>(h2 (by rw[getD_set_ne false (by decide)] at q2;exact q2)).gr gg⟩),fun q=>⟨⟨getD_set_true (f27 (done_old q (by decide))).1.1,getD_set_true (f27 (done_old q (by decide))).1.2⟩,Gr.owns (f27 (done_old q (by decide))).2 gg⟩,fun q=>⟨getD_set_true (f28 (done_old q (by decide))).1,(f28 (done_old q (by decide))).2⟩⟩
 ·rintro done a w hsz hnot hdep ⟨t4,t21,t22,t23,t24,t25,t26,t27,t28,t29,t30,t31,t32,t33,t34,t35,t36,t37,t38,t39,t40,t41,t42,t43,t44,t45,t46,t47,t48,rfl,⟨gw,gx⟩,f0,f1,f2,f3,f4,f5,f6,f7,f8,f9,f10,f11,f12,f13,f14,f15,f16,f17,f18,f19,f20,f21,f22,f23,f24,f25,f26,f27,f28⟩ K hK
  have hn:¬done.getD 16 false=true:=by rw[getD_both hnot];decide
  have d13:=hdep 13 (by kernel_rfl)
  have d15:=hdep 15 (by kernel_rfl)
  obtain rfl:=f13 d13
  obtain rfl:=f15 d15
  have li:=LI.down
  have l4:(i:Int)+2<v.length:=by omega
  have l5:((i+2:Nat):Int)<v.length:=by omega
  clear li
  have HK:=PLift.up hK
  clear hK d13 d15
  simp only[rc7A]
  go_simp
  (try simp only[HC2.down])
  (try simp only[show((i:Int)+2).toNat=i+2 by omega,HC2.down])
  have gg:Gr w w:=Gr.refl _
  refine HK.down _ _ ⟨_,_,_,_,_,_,_,_,_,_,_,_,_,_,_,_,_,_,_,_,_,_,_,_,_,_,_,_,_,rfl,⟨gw,fun q=>gx.1 (by rw[getD_set_ne false (by decide)] at q;exact q),fun q=>Gr.owns (gx.2 (by rw[getD_set_ne false (by decide)] at q;exact q)) gg⟩,kp f0,kp f1,kp f2,kp f3,kp f4,kp f5,kp f6,kp f7,kp f8,kp f9,kp f10,kp f11,kp f12,kp f13,kp f14,kp f15,fun _=>rfl,kp f17,kp f18,kp f19,kp f20,kp f21,kp f22,kp f23,kp f24,kp f25,fun q=>(let⟨B,e,h2⟩:=f26 (done_old q (by decide));⟨B,e,fun q2=>(h2 (by rw[getD_set_ne false (by decide)] at q2;exact q2)).gr gg⟩),fun q=>⟨⟨getD_set_true (f27 (done_old q (by decide))).1.1,getD_set_true (f27 (done_old q (by decide))).1.2⟩,Gr.owns (f27 (done_old q (by decide))).2 gg⟩,fun q=>⟨getD_set_true (f28 (done_old q (by decide))).1,(f28 (done_old q (by decide))).2⟩⟩
 ·rintro done a w hsz hnot hdep ⟨t4,t21,t22,t23,t24,t25,t26,t27,t28,t29,t30,t31,t32,t33,t34,t35,t36,t37,t38,t39,t40,t41,t42,t43,t44,t45,t46,t47,t48,rfl,⟨gw,gx⟩,f0,f1,f2,f3,f4,f5,f6,f7,f8,f9,f10,f11,f12,f13,f14,f15,f16,f17,f18,f19,f20,f21,f22,f23,f24,f25,f26,f27,f28⟩ K hK
  have hn:¬done.getD 17 false=true:=by rw[getD_both hnot];decide
  have d16:=hdep 16 (by kernel_rfl)
  obtain rfl:=f16 d16
  have w2:=HW2.down
  have b2:=HB2.down
  have HK:=PLift.up hK
  clear hK d16
  simp only[rc7A]
  go_simp
  have gg:Gr w w:=Gr.refl _
  refine HK.down _ _ ⟨_,_,_,_,_,_,_,_,_,_,_,_,_,_,_,_,_,_,_,_,_,_,_,_,_,_,_,_,_,rfl,⟨gw,fun q=>gx.1 (by rw[getD_set_ne false (by decide)] at q;exact q),fun q=>Gr.owns (gx.2 (by rw[getD_set_ne false (by decide)] at q;exact q)) gg⟩,kp f0,kp f1,kp f2,kp f3,kp f4,kp f5,kp f6,kp f7,kp f8,kp f9,kp f10,kp f11,kp f12,kp f13,kp f14,kp f15,kp f16,fun _=>rfl,kp f18,kp f19,kp f20,kp f21,kp f22,kp f23,kp f24,kp f25,fun q=>(let⟨B,e,h2⟩:=f26 (done_old q (by decide));⟨B,e,fun q2=>(h2 (by rw[getD_set_ne false (by decide)] at q2;exact q2)).gr gg⟩),fun q=>⟨⟨getD_set_true (f27 (done_old q (by decide))).1.1,getD_set_true (f27 (done_old q (by decide))).1.2⟩,Gr.owns (f27 (done_old q (by decide))).2 gg⟩,fun q=>⟨getD_set_true (f28 (done_old q (by decide))).1,(f28 (done_old q (by decide))).2⟩⟩
 ·rintro done a w hsz hnot hdep ⟨t4,t21,t22,t23,t24,t25,t26,t27,t28,t29,t30,t31,t32,t33,t34,t35,t36,t37,t38,t39,t40,t41,t42,t43,t44,t45,t46,t47,t48,rfl,⟨gw,gx⟩,f0,f1,f2,f3,f4,f5,f6,f7,f8,f9,f10,f11,f12,f13,f14,f15,f16,f17,f18,f19,f20,f21,f22,f23,f24,f25,f26,f27,f28⟩ K hK
  have hn:¬done.getD 18 false=true:=by rw[getD_both hnot];decide
  have d17:=hdep 17 (by kernel_rfl)
  obtain rfl:=f17 d17
  have v2:=HV2.down
  have b2:=HB2.down
  have HK:=PLift.up hK
  clear hK d17
  simp only[rc7A]
  go_simp
  have gg:Gr w w:=Gr.refl _
  refine HK.down _ _ ⟨_,_,_,_,_,_,_,_,_,_,_,_,_,_,_,_,_,_,_,_,_,_,_,_,_,_,_,_,_,rfl,⟨gw,fun q=>gx.1 (by rw[getD_set_ne false (by decide)] at q;exact q),fun q=>Gr.owns (gx.2 (by rw[getD_set_ne false (by decide)] at q;exact q)) gg⟩,kp f0,kp f1,kp f2,kp f3,kp f4,kp f5,kp f6,kp f7,kp f8,kp f9,kp f10,kp f11,kp f12,kp f13,kp f14,kp f15,kp f16,kp f17,fun _=>rfl,kp f19,kp f20,kp f21,kp f22,kp f23,kp f24,kp f25,fun q=>(let⟨B,e,h2⟩:=f26 (done_old q (by decide));⟨B,e,fun q2=>(h2 (by rw[getD_set_ne false (by decide)] at q2;exact q2)).gr gg⟩),fun q=>⟨⟨getD_set_true (f27 (done_old q (by decide))).1.1,getD_set_true (f27 (done_old q (by decide))).1.2⟩,Gr.owns (f27 (done_old q (by decide))).2 gg⟩,fun q=>⟨getD_set_true (f28 (done_old q (by decide))).1,(f28 (done_old q (by decide))).2⟩⟩
 ·rintro done a w hsz hnot hdep ⟨t4,t21,t22,t23,t24,t25,t26,t27,t28,t29,t30,t31,t32,t33,t34,t35,t36,t37,t38,t39,t40,t41,t42,t43,t44,t45,t46,t47,t48,rfl,⟨gw,gx⟩,f0,f1,f2,f3,f4,f5,f6,f7,f8,f9,f10,f11,f12,f13,f14,f15,f16,f17,f18,f19,f20,f21,f22,f23,f24,f25,f26,f27,f28⟩ K hK
  have hn:¬done.getD 19 false=true:=by rw[getD_both hnot];decide
  have d12:=hdep 12 (by kernel_rfl)
  have d18:=hdep 18 (by kernel_rfl)
  obtain rfl:=f12 d12
  obtain rfl:=f18 d18
  have o2:=HO2.down
  have HK:=PLift.up hK
  clear hK d12 d18
  simp only[rc7A]
  go_simp
  have gg:Gr w w:=Gr.refl _
  refine HK.down _ _ ⟨_,_,_,_,_,_,_,_,_,_,_,_,_,_,_,_,_,_,_,_,_,_,_,_,_,_,_,_,_,rfl,⟨gw,fun q=>gx.1 (by rw[getD_set_ne false (by decide)] at q;exact q),fun q=>Gr.owns (gx.2 (by rw[getD_set_ne false (by decide)] at q;exact q)) gg⟩,kp f0,kp f1,kp f2,kp f3,kp f4,kp f5,kp f6,kp f7,kp f8,kp f9,kp f10,kp f11,kp f12,kp f13,kp f14,kp f15,kp f16,kp f17,kp f18,fun _=>rfl,kp f20,kp f21,kp f22,kp f23,kp f24,kp f25,fun q=>(let⟨B,e,h2⟩:=f26 (done_old q (by decide));⟨B,e,fun q2=>(h2 (by rw[getD_set_ne false (by decide)] at q2;exact q2)).gr gg⟩),fun q=>⟨⟨getD_set_true (f27 (done_old q (by decide))).1.1,getD_set_true (f27 (done_old q (by decide))).1.2⟩,Gr.owns (f27 (done_old q (by decide))).2 gg⟩,fun q=>⟨getD_set_true (f28 (done_old q (by decide))).1,(f28 (done_old q (by decide))).2⟩⟩
 ·rintro done a w hsz hnot hdep ⟨t4,t21,t22,t23,t24,t25,t26,t27,t28,t29,t30,t31,t32,t33,t34,t35,t36,t37,t38,t39,t40,t41,t42,t43,t44,t45,t46,t47,t48,rfl,⟨gw,gx⟩,f0,f1,f2,f3,f4,f5,f6,f7,f8,f9,f10,f11,f12,f13,f14,f15,f16,f17,f18,f19,f20,f21,f22,f23,f24,f25,f26,f27,f28⟩ K hK
  have hn:¬done.getD 20 false=true:=by rw[getD_both hnot];decide
  have HK:=PLift.up hK
  clear hK
  simp only[rc7A]
  go_simp
  have gg:Gr w w:=Gr.refl _
  refine HK.down _ _ ⟨_,_,_,_,_,_,_,_,_,_,_,_,_,_,_,_,_,_,_,_,_,_,_,_,_,_,_,_,_,rfl,⟨gw,fun q=>gx.1 (by rw[getD_set_ne false (by decide)] at q;exact q),fun q=>Gr.owns (gx.2 (by rw[getD_set_ne false (by decide)] at q;exact q)) gg⟩,kp f0,kp f1,kp f2,kp f3,kp f4,kp f5,kp f6,kp f7,kp f8,kp f9,kp f10,kp f11,kp f12,kp f13,kp f14,kp f15,kp f16,kp f17,kp f18,kp f19,fun _=>rfl,kp f21,kp f22,kp f23,kp f24,kp f25,fun q=>(let⟨B,e,h2⟩:=f26 (done_old q (by decide));⟨B,e,fun q2=>(h2 (by rw[getD_set_ne false (by decide)] at q2;exact q2)).gr gg⟩),fun q=>⟨⟨getD_set_true (f27 (done_old q (by decide))).1.1,getD_set_true (f27 (done_old q (by decide))).1.2⟩,Gr.owns (f27 (done_old q (by decide))).2 gg⟩,fun q=>⟨getD_set_true (f28 (done_old q (by decide))).1,(f28 (done_old q (by decide))).2⟩⟩
 ·rintro done a w hsz hnot hdep ⟨t4,t21,t22,t23,t24,t25,t26,t27,t28,t29,t30,t31,t32,t33,t34,t35,t36,t37,t38,t39,t40,t41,t42,t43,t44,t45,t46,t47,t48,rfl,⟨gw,gx⟩,f0,f1,f2,f3,f4,f5,f6,f7,f8,f9,f10,f11,f12,f13,f14,f15,f16,f17,f18,f19,f20,f21,f22,f23,f24,f25,f26,f27,f28⟩ K hK
  have hn:¬done.getD 21 false=true:=by rw[getD_both hnot];decide
  have HK:=PLift.up hK
  clear hK
  simp only[rc7A]
  go_simp
  have gg:Gr w w:=Gr.refl _
  refine HK.down _ _ ⟨_,_,_,_,_,_,_,_,_,_,_,_,_,_,_,_,_,_,_,_,_,_,_,_,_,_,_,_,_,rfl,⟨gw,fun q=>gx.1 (by rw[getD_set_ne false (by decide)] at q;exact q),fun q=>Gr.owns (gx.2 (by rw[getD_set_ne false (by decide)] at q;exact q)) gg⟩,kp f0,kp f1,kp f2,kp f3,kp f4,kp f5,kp f6,kp f7,kp f8,kp f9,kp f10,kp f11,kp f12,kp f13,kp f14,kp f15,kp f16,kp f17,kp f18,kp f19,kp f20,fun _=>rfl,kp f22,kp f23,kp f24,kp f25,fun q=>(let⟨B,e,h2⟩:=f26 (done_old q (by decide));⟨B,e,fun q2=>(h2 (by rw[getD_set_ne false (by decide)] at q2;exact q2)).gr gg⟩),fun q=>⟨⟨getD_set_true (f27 (done_old q (by decide))).1.1,getD_set_true (f27 (done_old q (by decide))).1.2⟩,Gr.owns (f27 (done_old q (by decide))).2 gg⟩,fun q=>⟨getD_set_true (f28 (done_old q (by decide))).1,(f28 (done_old q (by decide))).2⟩⟩
 ·rintro done a w hsz hnot hdep ⟨t4,t21,t22,t23,t24,t25,t26,t27,t28,t29,t30,t31,t32,t33,t34,t35,t36,t37,t38,t39,t40,t41,t42,t43,t44,t45,t46,t47,t48,rfl,⟨gw,gx⟩,f0,f1,f2,f3,f4,f5,f6,f7,f8,f9,f10,f11,f12,f13,f14,f15,f16,f17,f18,f19,f20,f21,f22,f23,f24,f25,f26,f27,f28⟩ K hK
  have hn:¬done.getD 22 false=true:=by rw[getD_both hnot];decide
  have d21:=hdep 21 (by kernel_rfl)
  obtain rfl:=f21 d21
  have li:=LI.down
  have aw:=AW3.down
  have HK:=PLift.up hK
  clear hK d21
  simp only[rc7A]
  go_simp
  (try rw[show((i+3:Nat):Int)=(i:Int)+3 by omega])
  have gg:Gr w w:=Gr.refl _
  refine HK.down _ _ ⟨_,_,_,_,_,_,_,_,_,_,_,_,_,_,_,_,_,_,_,_,_,_,_,_,_,_,_,_,_,rfl,⟨gw,fun q=>gx.1 (by rw[getD_set_ne false (by decide)] at q;exact q),fun q=>Gr.owns (gx.2 (by rw[getD_set_ne false (by decide)] at q;exact q)) gg⟩,kp f0,kp f1,kp f2,kp f3,kp f4,kp f5,kp f6,kp f7,kp f8,kp f9,kp f10,kp f11,kp f12,kp f13,kp f14,kp f15,kp f16,kp f17,kp f18,kp f19,kp f20,kp f21,fun _=>rfl,kp f23,kp f24,kp f25,fun q=>(let⟨B,e,h2⟩:=f26 (done_old q (by decide));⟨B,e,fun q2=>(h2 (by rw[getD_set_ne false (by decide)] at q2;exact q2)).gr gg⟩),fun q=>⟨⟨getD_set_true (f27 (done_old q (by decide))).1.1,getD_set_true (f27 (done_old q (by decide))).1.2⟩,Gr.owns (f27 (done_old q (by decide))).2 gg⟩,fun q=>⟨getD_set_true (f28 (done_old q (by decide))).1,(f28 (done_old q (by decide))).2⟩⟩
 ·rintro done a w hsz hnot hdep ⟨t4,t21,t22,t23,t24,t25,t26,t27,t28,t29,t30,t31,t32,t33,t34,t35,t36,t37,t38,t39,t40,t41,t42,t43,t44,t45,t46,t47,t48,rfl,⟨gw,gx⟩,f0,f1,f2,f3,f4,f5,f6,f7,f8,f9,f10,f11,f12,f13,f14,f15,f16,f17,f18,f19,f20,f21,f22,f23,f24,f25,f26,f27,f28⟩ K hK
  have hn:¬done.getD 23 false=true:=by rw[getD_both hnot];decide
  have d20:=hdep 20 (by kernel_rfl)
  have d22:=hdep 22 (by kernel_rfl)
  obtain rfl:=f20 d20
  obtain rfl:=f22 d22
  have li:=LI.down
  have l4:(i:Int)+3<v.length:=by omega
  have l5:((i+3:Nat):Int)<v.length:=by omega
  clear li
  have HK:=PLift.up hK
  clear hK d20 d22
  simp only[rc7A]
  go_simp
  (try simp only[HC3.down])
  (try simp only[show((i:Int)+3).toNat=i+3 by omega,HC3.down])
  have gg:Gr w w:=Gr.refl _
  refine HK.down _ _ ⟨_,_,_,_,_,_,_,_,_,_,_,_,_,_,_,_,_,_,_,_,_,_,_,_,_,_,_,_,_,rfl,⟨gw,fun q=>gx.1 (by rw[getD_set_ne false (by decide)] at q;exact q),fun q=>Gr.owns (gx.2 (by rw[getD_set_ne false (by decide)] at q;exact q)) gg⟩,kp f0,kp f1,kp f2,kp f3,kp f4,kp f5,kp f6,kp f7,kp f8,kp f9,kp f10,kp f11,kp f12,kp f13,kp f14,kp f15,kp f16,kp f17,kp f18,kp f19,kp f20,kp f21,kp f22,fun _=>rfl,kp f24,kp f25,fun q=>(let⟨B,e,h2⟩:=f26 (done_old q (by decide));⟨B,e,fun q2=>(h2 (by rw[getD_set_ne false (by decide)] at q2;exact q2)).gr gg⟩),fun q=>⟨⟨getD_set_true (f27 (done_old q (by decide))).1.1,getD_set_true (f27 (done_old q (by decide))).1.2⟩,Gr.owns (f27 (done_old q (by decide))).2 gg⟩,fun q=>⟨getD_set_true (f28 (done_old q (by decide))).1,(f28 (done_old q (by decide))).2⟩⟩
 ·rintro done a w hsz hnot hdep ⟨t4,t21,t22,t23,t24,t25,t26,t27,t28,t29,t30,t31,t32,t33,t34,t35,t36,t37,t38,t39,t40,t41,t42,t43,t44,t45,t46,t47,t48,rfl,⟨gw,gx⟩,f0,f1,f2,f3,f4,f5,f6,f7,f8,f9,f10,f11,f12,f13,f14,f15,f16,f17,f18,f19,f20,f21,f22,f23,f24,f25,f26,f27,f28⟩ K hK
  have hn:¬done.getD 24 false=true:=by rw[getD_both hnot];decide
  have d23:=hdep 23 (by kernel_rfl)
  obtain rfl:=f23 d23
  have w3:=HW3.down
  have b3:=HB3.down
  have HK:=PLift.up hK
  clear hK d23
  simp only[rc7A]
  go_simp
  have gg:Gr w w:=Gr.refl _
  refine HK.down _ _ ⟨_,_,_,_,_,_,_,_,_,_,_,_,_,_,_,_,_,_,_,_,_,_,_,_,_,_,_,_,_,rfl,⟨gw,fun q=>gx.1 (by rw[getD_set_ne false (by decide)] at q;exact q),fun q=>Gr.owns (gx.2 (by rw[getD_set_ne false (by decide)] at q;exact q)) gg⟩,kp f0,kp f1,kp f2,kp f3,kp f4,kp f5,kp f6,kp f7,kp f8,kp f9,kp f10,kp f11,kp f12,kp f13,kp f14,kp f15,kp f16,kp f17,kp f18,kp f19,kp f20,kp f21,kp f22,kp f23,fun _=>rfl,kp f25,fun q=>(let⟨B,e,h2⟩:=f26 (done_old q (by decide));⟨B,e,fun q2=>(h2 (by rw[getD_set_ne false (by decide)] at q2;exact q2)).gr gg⟩),fun q=>⟨⟨getD_set_true (f27 (done_old q (by decide))).1.1,getD_set_true (f27 (done_old q (by decide))).1.2⟩,Gr.owns (f27 (done_old q (by decide))).2 gg⟩,fun q=>⟨getD_set_true (f28 (done_old q (by decide))).1,(f28 (done_old q (by decide))).2⟩⟩
 ·rintro done a w hsz hnot hdep ⟨t4,t21,t22,t23,t24,t25,t26,t27,t28,t29,t30,t31,t32,t33,t34,t35,t36,t37,t38,t39,t40,t41,t42,t43,t44,t45,t46,t47,t48,rfl,⟨gw,gx⟩,f0,f1,f2,f3,f4,f5,f6,f7,f8,f9,f10,f11,f12,f13,f14,f15,f16,f17,f18,f19,f20,f21,f22,f23,f24,f25,f26,f27,f28⟩ K hK
  have hn:¬done.getD 25 false=true:=by rw[getD_both hnot];decide
  have d19:=hdep 19 (by kernel_rfl)
  have d24:=hdep 24 (by kernel_rfl)
  obtain rfl:=f19 d19
  obtain rfl:=f24 d24
  have o3:=HO3.down
  have HK:=PLift.up hK
  clear hK d19 d24
  simp only[rc7A]
  go_simp
  have gg:Gr w w:=Gr.refl _
  refine HK.down _ _ ⟨_,_,_,_,_,_,_,_,_,_,_,_,_,_,_,_,_,_,_,_,_,_,_,_,_,_,_,_,_,rfl,⟨gw,fun q=>gx.1 (by rw[getD_set_ne false (by decide)] at q;exact q),fun q=>Gr.owns (gx.2 (by rw[getD_set_ne false (by decide)] at q;exact q)) gg⟩,kp f0,kp f1,kp f2,kp f3,kp f4,kp f5,kp f6,kp f7,kp f8,kp f9,kp f10,kp f11,kp f12,kp f13,kp f14,kp f15,kp f16,kp f17,kp f18,kp f19,kp f20,kp f21,kp f22,kp f23,kp f24,fun _=>rfl,fun q=>(let⟨B,e,h2⟩:=f26 (done_old q (by decide));⟨B,e,fun q2=>(h2 (by rw[getD_set_ne false (by decide)] at q2;exact q2)).gr gg⟩),fun q=>⟨⟨getD_set_true (f27 (done_old q (by decide))).1.1,getD_set_true (f27 (done_old q (by decide))).1.2⟩,Gr.owns (f27 (done_old q (by decide))).2 gg⟩,fun q=>⟨getD_set_true (f28 (done_old q (by decide))).1,(f28 (done_old q (by decide))).2⟩⟩
 ·rintro done a w hsz hnot hdep ⟨t4,t21,t22,t23,t24,t25,t26,t27,t28,t29,t30,t31,t32,t33,t34,t35,t36,t37,t38,t39,t40,t41,t42,t43,t44,t45,t46,t47,t48,rfl,⟨gw,gx⟩,f0,f1,f2,f3,f4,f5,f6,f7,f8,f9,f10,f11,f12,f13,f14,f15,f16,f17,f18,f19,f20,f21,f22,f23,f24,f25,f26,f27,f28⟩ K hK
  have hn:¬done.getD 26 false=true:=by rw[getD_both hnot];decide
  have d25:=hdep 25 (by kernel_rfl)
  obtain rfl:=f25 d25
  have HK:=PLift.up hK
  clear hK d25
  simp only[rc7A]
  go_simp
  have gg:Gr w (w.alloc (.cells #[.int .i64 ((num4 c0 c1 c2 c3:Nat):Int)] 3)):=(Gr.refl _).alloc _
  refine HK.down _ _ ⟨_,_,_,_,_,_,_,_,_,_,_,_,_,_,_,_,_,_,_,_,_,_,_,_,_,_,_,_,_,rfl,⟨gw.trans gg,fun q=>gx.1 (by rw[getD_set_ne false (by decide)] at q;exact q),fun q=>Gr.owns (gx.2 (by rw[getD_set_ne false (by decide)] at q;exact q)) gg⟩,kp f0,kp f1,kp f2,kp f3,kp f4,kp f5,kp f6,kp f7,kp f8,kp f9,kp f10,kp f11,kp f12,kp f13,kp f14,kp f15,kp f16,kp f17,kp f18,kp f19,kp f20,kp f21,kp f22,kp f23,kp f24,kp f25,?_,fun q=>absurd (f27 (done_old q (by decide))).1.2 hn,fun q=>⟨getD_set_true (f28 (done_old q (by decide))).1,(f28 (done_old q (by decide))).2⟩⟩
  exact fun _=>⟨_,rfl,fun _=>Row.new w _ _⟩
 ·rintro done a w hsz hnot hdep ⟨t4,t21,t22,t23,t24,t25,t26,t27,t28,t29,t30,t31,t32,t33,t34,t35,t36,t37,t38,t39,t40,t41,t42,t43,t44,t45,t46,t47,t48,rfl,⟨gw,gx⟩,f0,f1,f2,f3,f4,f5,f6,f7,f8,f9,f10,f11,f12,f13,f14,f15,f16,f17,f18,f19,f20,f21,f22,f23,f24,f25,f26,f27,f28⟩ K hK
  have hn:¬done.getD 27 false=true:=by rw[getD_both hnot];decide
  have d0:=hdep 0 (by kernel_rfl)
  have d26:=hdep 26 (by kernel_rfl)
  have n20:=getD_both hnot
  obtain⟨B,rfl,r3⟩:=f26 d26
  refine step_append_gets _ rfl _ _ 38 rfl wb.heap.size 3 j0 (.int .i64 0) 1 8 Tryz.underlying38 hj hy0 hy1 hy2 rfl (by decide) x zs.length (nums zs) (by simp[Act.eval,rc7A,f0 d0]) (gx.2 n20) (some ⟨B,0,none⟩) 1 1 (nums [((num4 c0 c1 c2 c3:Nat):Int)]) (by simp[Act.eval,rc7A]) ⟨rfl,fun _=>⟨_,rfl,row_cells (r3 n20)⟩⟩ (nums_one _) (by unfold maxLen;omega) (by omega) gw.size ?_
  intro v w2 hown hgrow _
  refine hK _ _ ⟨_,_,_,_,_,_,_,_,_,_,_,_,_,_,_,_,_,_,_,_,_,_,_,_,_,_,_,_,_,rfl,⟨gw.grown hgrow (fun k e=>(owns_block (gx.2 n20) k e).1),fun q=>gx.1 (by rw[getD_set_ne false (by decide)] at q;exact q),fun q=>absurd q (by rw[getD_set_same (by rw[hsz];decide)];decide)⟩,fun _=>(by first|rfl|exact f0 d0),kp f1,kp f2,kp f3,kp f4,kp f5,kp f6,kp f7,kp f8,kp f9,kp f10,kp f11,kp f12,kp f13,kp f14,kp f15,kp f16,kp f17,kp f18,kp f19,kp f20,kp f21,kp f22,kp f23,kp f24,kp f25,fun _=>⟨B,rfl,fun q=>absurd q (by rw[getD_set_same (by rw[hsz];decide)];decide)⟩,?_,fun q=>absurd (f28 (done_old q (by decide))).1 hn⟩
  exact fun _=>⟨⟨getD_set_true d0,getD_set_true d26⟩,by simpa [nums] using hown⟩
 ·rintro done a w hsz hnot hdep ⟨t4,t21,t22,t23,t24,t25,t26,t27,t28,t29,t30,t31,t32,t33,t34,t35,t36,t37,t38,t39,t40,t41,t42,t43,t44,t45,t46,t47,t48,rfl,⟨gw,gx⟩,f0,f1,f2,f3,f4,f5,f6,f7,f8,f9,f10,f11,f12,f13,f14,f15,f16,f17,f18,f19,f20,f21,f22,f23,f24,f25,f26,f27,f28⟩ K hK
  have hn:¬done.getD 28 false=true:=by rw[getD_both hnot];decide
  have d27:=hdep 27 (by kernel_rfl)
  have HK:=PLift.up hK
  clear hK
  simp only[rc7A]
  go_simp
  have gg:Gr w w:=Gr.refl _
  refine HK.down _ _ ⟨_,_,_,_,_,_,_,_,_,_,_,_,_,_,_,_,_,_,_,_,_,_,_,_,_,_,_,_,_,rfl,⟨gw,fun q=>absurd q (by rw[getD_set_same (by rw[hsz];decide)];decide),fun q=>Gr.owns (gx.2 (by rw[getD_set_ne false (by decide)] at q;exact q)) gg⟩,fun q=>(by first|rfl|exact f0 (done_old q (by decide))),kp f1,kp f2,kp f3,kp f4,kp f5,kp f6,kp f7,kp f8,kp f9,kp f10,kp f11,kp f12,kp f13,kp f14,kp f15,kp f16,kp f17,kp f18,kp f19,kp f20,kp f21,kp f22,kp f23,kp f24,kp f25,fun q=>(let⟨B,e,h2⟩:=f26 (done_old q (by decide));⟨B,e,fun q2=>(h2 (by rw[getD_set_ne false (by decide)] at q2;exact q2)).gr gg⟩),fun q=>⟨⟨getD_set_true (f27 (done_old q (by decide))).1.1,getD_set_true (f27 (done_old q (by decide))).1.2⟩,Gr.owns (f27 (done_old q (by decide))).2 gg⟩,?_⟩
  exact fun _=>⟨getD_set_true d27,rfl⟩
 ·rintro done a w hall ⟨t4,t21,t22,t23,t24,t25,t26,t27,t28,t29,t30,t31,t32,t33,t34,t35,t36,t37,t38,t39,t40,t41,t42,t43,t44,t45,t46,t47,t48,rfl,⟨gw,gx⟩,f0,f1,f2,f3,f4,f5,f6,f7,f8,f9,f10,f11,f12,f13,f14,f15,f16,f17,f18,f19,f20,f21,f22,f23,f24,f25,f26,f27,f28⟩
  obtain rfl:=(f28 (hall 28 (by decide))).2
  exact h' _ _ _ _ _ _ _ _ _ _ _ _ _ _ _ _ _ _ _ _ _ _ _ _ _ _ _ _ _ w (f27 (hall 27 (by decide))).2 gw
end Go.Proofs.YtdjhnfopdlgliaaGreat
namespace Go.Proofs.YtdjhnfopdlgliaaGreat
open Go.RowKit
theorem rletter_any(c:Int)(w:World):
  Calls Tryz.prog 112 #[.int .u8 c] w fun e w'=>e= .returned (.bool (letC c))∧w=w':=by
 go_enter Tryz.func112,Tryz.ntmps112
 go_wp2
 all_goals go_ret
 all_goals exact⟨ret_bool (by unfold letC;rw[Bool.eq_iff_iff];simp;try omega),rfl⟩
theorem rword_any(c:Int)(w:World):
  Calls Tryz.prog 144 #[.int .u8 c] w fun e w'=>e= .returned (.bool (wrdC c))∧w=w':=by
 obtain⟨B,hB⟩:∃B:Bool,wrdC c=B:=⟨_,rfl⟩
 rw[hB]
 cases hl:letC c with
 |true=>
  have e:B=true:=by rw[←hB];unfold wrdC;rw[hl];rfl
  subst e
  clear hB
  go_enter Tryz.func144,Tryz.ntmps144
  go_wp2_with (go_at_call 112;refine(rletter_any _ _).mono ?_;rintro e w' ⟨rfl,rfl⟩;rw[hl])
  go_ret
  exact⟨ret_bool (by simp),rfl⟩
 |false=>
  have e:B=(digC c||c==95):=by rw[←hB];unfold wrdC;rw[hl];rfl
  have E:=Lib.hid e
  clear hB e
  go_enter Tryz.func144,Tryz.ntmps144
  go_wp2_with (go_at_call 112;refine(rletter_any _ _).mono ?_;rintro e w' ⟨rfl,rfl⟩;rw[hl])
  all_goals go_ret
  all_goals exact⟨ret_bool (by rw[E.out];unfold digC;rw[Bool.eq_iff_iff];simp;try omega),rfl⟩
theorem among_any(c:UInt8)(s:St)(w:World)(hf:s.length≤1000000):
  Calls Tryz.prog 109 #[.int .u8 (c.toNat:Int),.string (bs s)] w fun e w'=>e= .returned (.bool (s.contains c))∧w=w':=by
 obtain⟨D,hD⟩:∃D:Bool,s.contains c=D:=⟨_,rfl⟩
 have HD:=Lib.hid hD
 rw[hD]
 clear hD
 go_enter Tryz.func109,Tryz.ntmps109
 go_wp2_with fail
 go_loop [5] (fun i=>∃k:Nat,k≤s.length∧i= .int .i64 k∧(s.take k).contains c=false) (fun i=>s.length-(intOf i).toNat)
 case atStart=>exact⟨0,Nat.zero_le _,rfl,rfl⟩
 case round=>
  obtain⟨k,hk,rfl,hall⟩:=hrel
  have HA:=Lib.hid hall
  clear hall
  by_cases hlt:k<s.length
  ·by_cases hq:s[k]=c
   ·have q1:((s[k].toNat:Int)==(c.toNat:Int))=true:=by rw[hq];simp
    have q2:(s[k].toNat:Int)=(c.toNat:Int):=by rw[hq]
    have M:Hid (s.contains c=true):=Lib.hid (by rw[List.contains_iff_mem,←hq];exact List.getElem_mem hlt)
    clear hq
    go_wp2_with fail
    go_ret
    exact⟨ret_bool (by rw[←HD.out,M.out]),rfl⟩
   ·have q0:¬s[k].toNat=c.toNat:=fun e=>hq (UInt8.toNat_inj.1 e)
    have q1:((s[k].toNat:Int)==(c.toNat:Int))=false:=by rw[beq_eq_false_iff_ne];omega
    have q2:¬(s[k].toNat:Int)=(c.toNat:Int):=by omega
    have Q:=Lib.hid hq
    clear hq
    go_wp2_with fail
    go_round
    case rel=>
     refine⟨k+1,by omega,by go_num,?_⟩
     rw[←Bool.not_eq_true,List.contains_iff_mem,List.take_succ_eq_append_getElem hlt,List.mem_append,List.mem_singleton]
     rintro(h|h)
     ·have:=HA.out
      rw[←Bool.not_eq_true,List.contains_iff_mem] at this
      exact this h
     ·exact Q.out h.symm
    case measure=>simp[intOf];omega
  ·go_wp2_with fail
   go_ret
   exact⟨ret_bool (by rw[←HD.out,←HA.out,List.take_of_length_le (by omega)]),rfl⟩
theorem rname_any(c:UInt8)(w:World):
  Calls Tryz.prog 145 #[.int .u8 (c.toNat:Int)] w fun e w'=>e= .returned (.bool (namC c))∧w=w':=by
 cases hl:wrdC c.toNat with
 |true=>
  have e:Hid (namC c=true):=Lib.hid (by unfold namC;rw[hl];rfl)
  go_enter Tryz.func145,Tryz.ntmps145
  go_wp2_with (go_at_call 144;refine(rword_any _ _).mono ?_;rintro e w' ⟨rfl,rfl⟩;rw[hl])
  go_ret
  exact⟨ret_bool (by rw[e.out]),rfl⟩
 |false=>
  obtain⟨D,hD⟩:∃D:Bool,sgnS.contains c=D:=⟨_,rfl⟩
  have e:Hid (namC c=D):=Lib.hid (by unfold namC;rw[hl,hD];rfl)
  have AM:∀w:World,Calls Tryz.prog 109 #[.int .u8 (c.toNat:Int),.string ⟨#[44,46,43,45,63,35,64]⟩] w fun e w'=>e= .returned (.bool D)∧w=w':=fun w=>by
   rw[←hD];exact among_any c sgnS w (by decide)
  have HAM:=Lib.hid AM
  clear AM hD
  go_enter Tryz.func145,Tryz.ntmps145
  go_wp2_with (first
   |(go_at_call 144;refine(rword_any _ _).mono ?_;rintro e w' ⟨rfl,rfl⟩;rw[hl])
   |(go_at_call 109;refine(HAM.out _).mono ?_;rintro e w' ⟨rfl,rfl⟩))
  go_ret
  exact⟨ret_bool (by rw[e.out]),rfl⟩
theorem refName_any(s:St)(w:World):
  Calls Tryz.prog 119 #[.string (bs s)] w fun e w'=>e= .returned (.bool (nameOk s))∧w=w':=by
 by_cases h1:1≤s.length
 ·by_cases h2:s.length≤31
  ·have e0:(bs s).size=s.length:=bs_size s
   by_cases h3:(letC (chr s 0)||chr s 0==95)=true
   ·have N:Hid (nameOk s=s.all namC):=Lib.hid (by unfold nameOk;rw[h3];simp[h1,h2])
    have h3':=h3
    rw[chr0 h1] at h3'
    have g1:letC (s[0].toNat:Int)=true∨((s[0].toNat:Int)=95):=by simpa using h3'
    clear h3 h3'
    obtain⟨B,hB⟩:∃B:Bool,letC (s[0].toNat:Int)=B:=⟨_,rfl⟩
    rw[hB] at g1
    go_enter Tryz.func119,Tryz.ntmps119
    have loop:B=true∨(B=false∧s[0].toNat=95):=by
     cases B with
     |true=>exact .inl rfl
     |false=>exact .inr ⟨rfl,by
      rcases g1 with q|q;·cases q
      ·omega⟩
    clear g1
    rcases loop with rfl|⟨rfl,h95⟩
    ·go_wp2_with (go_at_call 112;refine(rletter_any _ _).mono ?_;rintro e w' ⟨rfl,rfl⟩;rw[hB])
     go_loop [3] (fun i=>∃k:Nat,k≤s.length∧i= .int .i64 k∧(s.take k).all namC=true) (fun i=>s.length-(intOf i).toNat)
     case atStart=>exact⟨0,Nat.zero_le _,rfl,rfl⟩
     case round=>
      obtain⟨k,hk,rfl,hall⟩:=hrel
      have HA:=Lib.hid hall
      clear hall
      by_cases hlt:k<s.length
      ·by_cases hq:namC s[k]=true
       ·go_wp2_with (go_at_call 145;refine(rname_any _ _).mono ?_;rintro e w' ⟨rfl,rfl⟩;rw[hq])
        go_round
        case rel=>exact⟨k+1,by omega,by go_num,by rw[List.take_succ_eq_append_getElem hlt,List.all_append,HA.out];simp[hq]⟩
        case measure=>simp[intOf];omega
       ·rw[Bool.not_eq_true] at hq
        go_wp2_with (go_at_call 145;refine(rname_any _ _).mono ?_;rintro e w' ⟨rfl,rfl⟩;rw[hq])
        go_ret
        exact⟨ret_bool (by rw[N.out];symm;rw[List.all_eq_false];exact⟨_,List.getElem_mem hlt,by simp[hq]⟩),rfl⟩
      ·go_wp2_with fail
       go_ret
       exact⟨ret_bool (by rw[N.out,←HA.out,List.take_of_length_le (by omega)]),rfl⟩
    ·have q1:(s[0].toNat:Int)=95:=by omega
     have q2:((s[0].toNat:Int) !=95)=false:=by rw[q1];rfl
     have q3:((s[0].toNat:Int)==95)=true:=by rw[q1];rfl
     clear q1 h95
     go_wp2_with (go_at_call 112;refine(rletter_any _ _).mono ?_;rintro e w' ⟨rfl,rfl⟩;rw[hB])
     go_loop [3] (fun i=>∃k:Nat,k≤s.length∧i= .int .i64 k∧(s.take k).all namC=true) (fun i=>s.length-(intOf i).toNat)
     case atStart=>exact⟨0,Nat.zero_le _,rfl,rfl⟩
     case round=>
      obtain⟨k,hk,rfl,hall⟩:=hrel
      have HA:=Lib.hid hall
      clear hall
      by_cases hlt:k<s.length
      ·by_cases hq:namC s[k]=true
       ·go_wp2_with (go_at_call 145;refine(rname_any _ _).mono ?_;rintro e w' ⟨rfl,rfl⟩;rw[hq])
        go_round
        case rel=>exact⟨k+1,by omega,by go_num,by rw[List.take_succ_eq_append_getElem hlt,List.all_append,HA.out];simp[hq]⟩
        case measure=>simp[intOf];omega
       ·rw[Bool.not_eq_true] at hq
        go_wp2_with (go_at_call 145;refine(rname_any _ _).mono ?_;rintro e w' ⟨rfl,rfl⟩;rw[hq])
        go_ret
        exact⟨ret_bool (by rw[N.out];symm;rw[List.all_eq_false];exact⟨_,List.getElem_mem hlt,by simp[hq]⟩),rfl⟩
      ·go_wp2_with fail
       go_ret
       exact⟨ret_bool (by rw[N.out,←HA.out,List.take_of_length_le (by omega)]),rfl⟩
   ·have N:Hid (nameOk s=false):=Lib.hid (by unfold nameOk;rw[Bool.not_eq_true] at h3;rw[h3];simp)
    rw[chr0 h1,Bool.not_eq_true,Bool.or_eq_false_iff] at h3
    have g1:=h3.1
    have g2:¬(s[0].toNat:Int)=95:=by simpa using h3.2
    have g3:¬s[0].toNat=95:=by omega
    have g4:((s[0].toNat:Int) !=95)=true:=by rw[bne_iff_ne];exact g2
    have g5:((s[0].toNat:Int)==95)=false:=by rw[beq_eq_false_iff_ne];exact g2
    clear h3
    go_enter Tryz.func119,Tryz.ntmps119
    go_wp2_with (go_at_call 112;refine(rletter_any _ _).mono ?_;rintro e w' ⟨rfl,rfl⟩;rw[g1])
    go_ret
    exact⟨ret_bool (by rw[N.out]),rfl⟩
  ·have e0:(bs s).size=s.length:=bs_size s
   go_enter Tryz.func119,Tryz.ntmps119
   go_wp2_with fail
   go_ret
   exact⟨ret_bool (by unfold nameOk;simp[h1,h2]),rfl⟩
 ·go_enter Tryz.func119,Tryz.ntmps119
  go_wp2_with fail
  go_ret
  exact⟨ret_bool (by unfold nameOk;simp[h1]),rfl⟩
end Go.Proofs.YtdjhnfopdlgliaaGreat
