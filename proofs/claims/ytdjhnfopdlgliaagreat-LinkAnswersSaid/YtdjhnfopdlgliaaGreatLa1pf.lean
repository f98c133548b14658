/- Lemmas and contracts for the proof of LinkAnswers (several texts in one, printed by wip/tools/pack.py): TeK TeJ TeL TeM. -/
import Derived.Test.YtdjhnfopdlgliaaGreatLa1pe
import Derived.Laws.BitsAllLaws
import Derived.Laws.BitsLemmas
import Derived.Test.YtdjhnfopdlgliaaGreatLa1pa
set_option maxRecDepth 100000
set_option maxHeartbeats 16000000
set_option linter.unusedVariables false
set_option linter.unusedSimpArgs false
namespace Go.Proofs.YtdjhnfopdlgliaaGreat
open Go.RowKit
open Classical
theorem infoInt:(Tryz.prog.info? 3).map (fun i=>(i.zero,i.size,i.bytes))=some (some (.int .i64 0),1,8):=by kernel_rfl
theorem wraps_i64s(n:Int)(h₀:0≤n)(h₁:n<2^32):IntKind.i64.wrap n=n:=by rw[IntKind.wrap_i64];omega
theorem row_cells{w:World}{B T:Nat}{xs:List Value}(h:Row w B T xs):∀j u,xs[j]?=some u→w.cell? ((⟨B,0,none⟩:Addr).add j)=some u:=by
 intro j u hu
 obtain⟨hj,e⟩:=List.getElem?_eq_some_iff.1 hu
 rw[Addr.add_lit,Nat.zero_add,h.cell j hj,e]
theorem or64(a b:Nat)(i:Nat)(ha:a%2^i=0)(h:b<2^i)(ha2:a<4294967296)(hb:b<4294967296):bits .or .i64 (a:Int) (b:Int)=((a+b:Nat):Int):=by
 have e:=bits_join .i64 32 (by decide) wraps_i64s i (a:Int) (b:Int) (by omega) (by exact_mod_cast ha) (by omega) (by omega) (by exact_mod_cast h) (by omega)
 rw[e];omega
theorem sh64(a m:Nat)(h:a*m<4294967296):IntKind.i64.wrap ((a:Int)*(m:Int))=(a:Int)*(m:Int):=by
 rw[←Int.natCast_mul];exact wraps_i64s _ (by omega) (by omega)
def cl6F(wr wb:World)(x:Value)(zs:List Int)(c0 c1 c2 c3:UInt8)(r:St)(t4 t17 t18 t19 t20 t21 t22 t23 t24 t25 t26 t27 t28 t29 t30 t31 t32 t33 t34 t35 t36 t37:Value)(d:Array Bool)(w:World):Prop:=
 (Gr wb w∧(d.getD 21 false=false→t4=x)∧(d.getD 20 false=false→w.ownsRow wb.heap.size 3 1 x zs.length (nums zs)))∧(d.getD 0 false=true→t17=x)∧
 (d.getD 1 false=true→t18= .string (bs (c0::c1::c2::c3::r)))∧
 (d.getD 2 false=true→t19= .int .u8 (c0.toNat:Int))∧
 (d.getD 3 false=true→t20= .int .i64 (c0.toNat:Int))∧
 (d.getD 4 false=true→t21= .int .i64 ((c0.toNat:Int)*16777216))∧
 (d.getD 5 false=true→t22= .string (bs (c0::c1::c2::c3::r)))∧
 (d.getD 6 false=true→t23= .int .u8 (c1.toNat:Int))∧
 (d.getD 7 false=true→t24= .int .i64 (c1.toNat:Int))∧
 (d.getD 8 false=true→t25= .int .i64 ((c1.toNat:Int)*65536))∧
 (d.getD 9 false=true→t26= .int .i64 ((c0.toNat:Int)*16777216+(c1.toNat:Int)*65536))∧
 (d.getD 10 false=true→t27= .string (bs (c0::c1::c2::c3::r)))∧
 (d.getD 11 false=true→t28= .int .u8 (c2.toNat:Int))∧
 (d.getD 12 false=true→t29= .int .i64 (c2.toNat:Int))∧
 (d.getD 13 false=true→t30= .int .i64 ((c2.toNat:Int)*256))∧
 (d.getD 14 false=true→t31= .int .i64 ((c0.toNat:Int)*16777216+(c1.toNat:Int)*65536+(c2.toNat:Int)*256))∧
 (d.getD 15 false=true→t32= .string (bs (c0::c1::c2::c3::r)))∧
 (d.getD 16 false=true→t33= .int .u8 (c3.toNat:Int))∧
 (d.getD 17 false=true→t34= .int .i64 (c3.toNat:Int))∧
 (d.getD 18 false=true→t35= .int .i64 ((num4 c0 c1 c2 c3:Nat):Int))∧
 (d.getD 19 false=true→∃B,t36= .slice (some ⟨B,0,none⟩) 1 1∧(d.getD 20 false=false→Row w B 3 (nums [((num4 c0 c1 c2 c3:Nat):Int)])))∧
 (d.getD 20 false=true→(d.getD 0 false=true∧d.getD 19 false=true)∧w.ownsRow wb.heap.size 3 1 t37 (zs.length+1) (nums (zs++ [((num4 c0 c1 c2 c3:Nat):Int)])))∧
 (d.getD 21 false=true→d.getD 20 false=true∧t4=t37)
def cl6A(c0 c1 c2 c3:UInt8)(r:St)(t4 t17 t18 t19 t20 t21 t22 t23 t24 t25 t26 t27 t28 t29 t30 t31 t32 t33 t34 t35 t36 t37 s1 s2 s3 s5 s6 s7 s8 s9 s10 s11 s12 s13 s14 s15 s16 s38:Value):Act:={tmps:= #[.string (bs (c0::c1::c2::c3::r)),s1,s2,s3,t4,s5,s6,s7,s8,s9,s10,s11,s12,s13,s14,s15,s16,t17,t18,t19,t20,t21,t22,t23,t24,t25,t26,t27,t28,t29,t30,t31,t32,t33,t34,t35,t36,t37,s38],defers:= []}
theorem cl6{Q:Exit→Act→World→Prop}{wr wb:World}{x:Value}{zs:List Int}{c0 c1 c2 c3:UInt8}{r:St}{s1 s2 s3 s5 s6 s7 s8 s9 s10 s11 s12 s13 s14 s15 s16 s17 s18 s19 s20 s21 s22 s23 s24 s25 s26 s27 s28 s29 s30 s31 s32 s33 s34 s35 s36 s37 s38:Value}(h:wr.ownsRow wb.heap.size 3 1 x zs.length (nums zs))(hg0:Gr wb wr)(hn2:zs.length≤1000000)(hr:r.length≤1000000)
  (h':∀t4 t17 t18 t19 t20 t21 t22 t23 t24 t25 t26 t27 t28 t29 t30 t31 t32 t33 t34 t35 t36 t37 wx,wx.ownsRow wb.heap.size 3 1 t4 (zs.length+1) (nums (zs++ [((num4 c0 c1 c2 c3:Nat):Int)]))→Gr wb wx→Q .normal (cl6A c0 c1 c2 c3 r t4 t17 t18 t19 t20 t21 t22 t23 t24 t25 t26 t27 t28 t29 t30 t31 t32 t33 t34 t35 t36 t37 s1 s2 s3 s5 s6 s7 s8 s9 s10 s11 s12 s13 s14 s15 s16 s38) wx):
  (Code.region 6 (regIn 6 Tryz.f83) true).wp Tryz.prog Q {tmps:= #[.string (bs (c0::c1::c2::c3::r)),s1,s2,s3,x,s5,s6,s7,s8,s9,s10,s11,s12,s13,s14,s15,s16,s17,s18,s19,s20,s21,s22,s23,s24,s25,s26,s27,s28,s29,s30,s31,s32,s33,s34,s35,s36,s37,s38],defers:= []} wr:=by
 have H:=PLift.up h
 have b0:c0.toNat<256:=c0.toNat_lt
 have b1:c1.toNat<256:=c1.toNat_lt
 have b2:c2.toNat<256:=c2.toNat_lt
 have b3:c3.toNat<256:=c3.toNat_lt
 have w0:IntKind.i64.wrap (c0.toNat:Int)=(c0.toNat:Int):=wraps_i64s _ (by omega) (by omega)
 have w1:IntKind.i64.wrap (c1.toNat:Int)=(c1.toNat:Int):=wraps_i64s _ (by omega) (by omega)
 have w2:IntKind.i64.wrap (c2.toNat:Int)=(c2.toNat:Int):=wraps_i64s _ (by omega) (by omega)
 have w3:IntKind.i64.wrap (c3.toNat:Int)=(c3.toNat:Int):=wraps_i64s _ (by omega) (by omega)
 have v0:IntKind.i64.wrap ((c0.toNat:Int)*16777216)=(c0.toNat:Int)*16777216:=sh64 _ 16777216 (by omega)
 have v1:IntKind.i64.wrap ((c1.toNat:Int)*65536)=(c1.toNat:Int)*65536:=sh64 _ 65536 (by omega)
 have v2:IntKind.i64.wrap ((c2.toNat:Int)*256)=(c2.toNat:Int)*256:=sh64 _ 256 (by omega)
 have o1:bits BinOp.or IntKind.i64 ((c0.toNat:Int)*16777216) ((c1.toNat:Int)*65536)=(c0.toNat:Int)*16777216+(c1.toNat:Int)*65536:=by
  rw[show(c0.toNat:Int)*16777216=((c0.toNat*16777216:Nat):Int) by omega,show(c1.toNat:Int)*65536=((c1.toNat*65536:Nat):Int) by omega,or64 _ _ 24 (by omega) (by omega) (by omega) (by omega)]
  omega
 have o2:bits BinOp.or IntKind.i64 ((c0.toNat:Int)*16777216+(c1.toNat:Int)*65536) ((c2.toNat:Int)*256)=(c0.toNat:Int)*16777216+(c1.toNat:Int)*65536+(c2.toNat:Int)*256:=by
  rw[show(c0.toNat:Int)*16777216+(c1.toNat:Int)*65536=((c0.toNat*16777216+c1.toNat*65536:Nat):Int) by omega,show(c2.toNat:Int)*256=((c2.toNat*256:Nat):Int) by omega,or64 _ _ 16 (by omega) (by omega) (by omega) (by omega)]
  omega
 have o3:bits BinOp.or IntKind.i64 ((c0.toNat:Int)*16777216+(c1.toNat:Int)*65536+(c2.toNat:Int)*256) (c3.toNat:Int)=((num4 c0 c1 c2 c3:Nat):Int):=by
  rw[show(c0.toNat:Int)*16777216+(c1.toNat:Int)*65536+(c2.toNat:Int)*256=((c0.toNat*16777216+c1.toNat*65536+c2.toNat*256:Nat):Int) by omega,or64 _ _ 8 (by omega) (by omega) (by omega) (by omega)]
  rfl
 have l0:(0:Int)<(r.length:Int)+1+1+1+1:=by omega
 have l1:(1:Int)<(r.length:Int)+1+1+1+1:=by omega
 have l2:(2:Int)<(r.length:Int)+1+1+1+1:=by omega
 have l3:(3:Int)<(r.length:Int)+1+1+1+1:=by omega
 clear h
 obtain⟨j0,hj,hy0,hy1,hy2⟩:=info_parts infoInt
 simp only[regIn,Tryz.f83,regOps,Option.bind_some,Option.getD_some,Nat.beq,cond_true,cond_false]
 refine wp_region_steps (fun done a w=>∃t4 t17 t18 t19 t20 t21 t22 t23 t24 t25 t26 t27 t28 t29 t30 t31 t32 t33 t34 t35 t36 t37,a=cl6A c0 c1 c2 c3 r t4 t17 t18 t19 t20 t21 t22 t23 t24 t25 t26 t27 t28 t29 t30 t31 t32 t33 t34 t35 t36 t37 s1 s2 s3 s5 s6 s7 s8 s9 s10 s11 s12 s13 s14 s15 s16 s38∧cl6F wr wb x zs c0 c1 c2 c3 r t4 t17 t18 t19 t20 t21 t22 t23 t24 t25 t26 t27 t28 t29 t30 t31 t32 t33 t34 t35 t36 t37 done w) (by kernel_rfl) (by kernel_rfl) ?_ ⟨?_,?_,?_,?_,?_,?_,?_,?_,?_,?_,?_,?_,?_,?_,?_,?_,?_,?_,?_,?_,?_,?_,trivial⟩ ?_
 ·exact⟨x,s17,s18,s19,s20,s21,s22,s23,s24,s25,s26,s27,s28,s29,s30,s31,s32,s33,s34,s35,s36,s37,rfl,⟨hg0.drew,fun _=>rfl,fun _=>H.down⟩,fun q=>absurd q (by decide),fun q=>absurd q (by decide),fun q=>absurd q (by decide),fun q=>absurd q (by decide),fun q=>absurd q (by decide),fun q=>absurd q (by decide),fun q=>absurd q (by decide),fun q=>absurd q (by decide),fun q=>absurd q (by decide),fun q=>absurd q (by decide),fun q=>absurd q (by decide),fun q=>absurd q (by decide),fun q=>absurd q (by decide),fun q=>absurd q (by decide),fun q=>absurd q (by decide),fun q=>absurd q (by decide),fun q=>absurd q (by decide),fun q=>absurd q (by decide),fun q=>absurd q (by decide),fun q=>absurd q (by decide),fun q=>absurd q (by decide),fun q=>absurd q (by decide)⟩
 ·rintro done a w hsz hnot hdep ⟨t4,t17,t18,t19,t20,t21,t22,t23,t24,t25,t26,t27,t28,t29,t30,t31,t32,t33,t34,t35,t36,t37,rfl,⟨gw,gx⟩,f0,f1,f2,f3,f4,f5,f6,f7,f8,f9,f10,f11,f12,f13,f14,f15,f16,f17,f18,f19,f20,f21⟩ K hK
  have hn:¬done.getD 0 false=true:=by rw[getD_both hnot];decide
  have n21:done.getD 21 false=false:=by cases hz:done.getD 21 false with|false=>rfl|true=>exact absurd (f20 (f21 hz).1).1.1 hn
  obtain rfl:=gx.1 n21
  have HK:=PLift.up hK
  clear hK
  simp only[cl6A]
  go_simp
  have gg:Gr w w:=Gr.refl _
  refine HK.down _ _ ⟨_,_,_,_,_,_,_,_,_,_,_,_,_,_,_,_,_,_,_,_,_,_,rfl,⟨gw,fun q=>gx.1 (by rw[getD_set_ne false (by decide)] at q;exact q),fun q=>Gr.owns (gx.2 (by rw[getD_set_ne false (by decide)] at q;exact q)) gg⟩,?_,kp f1,kp f2,kp f3,kp f4,kp f5,kp f6,kp f7,kp f8,kp f9,kp f10,kp f11,kp f12,kp f13,kp f14,kp f15,kp f16,kp f17,kp f18,fun q=>(let⟨B,e,h2⟩:=f19 (done_old q (by decide));⟨B,e,fun q2=>(h2 (by rw[getD_set_ne false (by decide)] at q2;exact q2)).gr gg⟩),fun q=>absurd (f20 (done_old q (by decide))).1.1 hn,fun q=>⟨getD_set_true (f21 (done_old q (by decide))).1,(f21 (done_old q (by decide))).2⟩⟩
  exact fun _=>rfl
 ·rintro done a w hsz hnot hdep ⟨t4,t17,t18,t19,t20,t21,t22,t23,t24,t25,t26,t27,t28,t29,t30,t31,t32,t33,t34,t35,t36,t37,rfl,⟨gw,gx⟩,f0,f1,f2,f3,f4,f5,f6,f7,f8,f9,f10,f11,f12,f13,f14,f15,f16,f17,f18,f19,f20,f21⟩ K hK
  have hn:¬done.getD 1 false=true:=by rw[getD_both hnot];decide
  have HK:=PLift.up hK
  clear hK
  simp only[cl6A]
  go_simp
  have gg:Gr w w:=Gr.refl _
  refine HK.down _ _ ⟨_,_,_,_,_,_,_,_,_,_,_,_,_,_,_,_,_,_,_,_,_,_,rfl,⟨gw,fun q=>gx.1 (by rw[getD_set_ne false (by decide)] at q;exact q),fun q=>Gr.owns (gx.2 (by rw[getD_set_ne false (by decide)] at q;exact q)) gg⟩,kp f0,fun _=>rfl,kp f2,kp f3,kp f4,kp f5,kp f6,kp f7,kp f8,kp f9,kp f10,kp f11,kp f12,kp f13,kp f14,kp f15,kp f16,kp f17,kp f18,fun q=>(let⟨B,e,h2⟩:=f19 (done_old q (by decide));⟨B,e,fun q2=>(h2 (by rw[getD_set_ne false (by decide)] at q2;exact q2)).gr gg⟩),fun q=>⟨⟨getD_set_true (f20 (done_old q (by decide))).1.1,getD_set_true (f20 (done_old q (by decide))).1.2⟩,Gr.owns (f20 (done_old q (by decide))).2 gg⟩,fun q=>⟨getD_set_true (f21 (done_old q (by decide))).1,(f21 (done_old q (by decide))).2⟩⟩
 ·rintro done a w hsz hnot hdep ⟨t4,t17,t18,t19,t20,t21,t22,t23,t24,t25,t26,t27,t28,t29,t30,t31,t32,t33,t34,t35,t36,t37,rfl,⟨gw,gx⟩,f0,f1,f2,f3,f4,f5,f6,f7,f8,f9,f10,f11,f12,f13,f14,f15,f16,f17,f18,f19,f20,f21⟩ K hK
  have hn:¬done.getD 2 false=true:=by rw[getD_both hnot];decide
  have d1:=hdep 1 (by kernel_rfl)
  obtain rfl:=f1 d1
  have HK:=PLift.up hK
  clear hK d1
  simp only[cl6A]
  go_simp
  have gg:Gr w w:=Gr.refl _
  refine HK.down _ _ ⟨_,_,_,_,_,_,_,_,_,_,_,_,_,_,_,_,_,_,_,_,_,_,rfl,⟨gw,fun q=>gx.1 (by rw[getD_set_ne false (by decide)] at q;exact q),fun q=>Gr.owns (gx.2 (by rw[getD_set_ne false (by decide)] at q;exact q)) gg⟩,kp f0,kp f1,fun _=>rfl,kp f3,kp f4,kp f5,kp f6,kp f7,kp f8,kp f9,kp f10,kp f11,kp f12,kp f13,kp f14,kp f15,kp f16,kp f17,kp f18,fun q=>(let⟨B,e,h2⟩:=f19 (done_old q (by decide));⟨B,e,fun q2=>(h2 (by rw[getD_set_ne false (by decide)] at q2;exact q2)).gr gg⟩),fun q=>⟨⟨getD_set_true (f20 (done_old q (by decide))).1.1,getD_set_true (f20 (done_old q (by decide))).1.2⟩,Gr.owns (f20 (done_old q (by decide))).2 gg⟩,fun q=>⟨getD_set_true (f21 (done_old q (by decide))).1,(f21 (done_old q (by decide))).2⟩⟩
 ·rintro done a w hsz hnot hdep ⟨t4,t17,t18,t19,t20,t21,t22,t23,t24,t25,t26,t27,t28,t29,t30,t31,t32,t33,t34,t35,t36,t37,rfl,⟨gw,gx⟩,f0,f1,f2,f3,f4,f5,f6,f7,f8,f9,f10,f11,f12,f13,f14,f15,f16,f17,f18,f19,f20,f21⟩ K hK
  have hn:¬done.getD 3 false=true:=by rw[getD_both hnot];decide
  have d2:=hdep 2 (by kernel_rfl)
  obtain rfl:=f2 d2
  have HK:=PLift.up hK
  clear hK d2
  simp only[cl6A]
  go_simp
  have gg:Gr w w:=Gr.refl _
  refine HK.down _ _ ⟨_,_,_,_,_,_,_,_,_,_,_,_,_,_,_,_,_,_,_,_,_,_,rfl,⟨gw,fun q=>gx.1 (by rw[getD_set_ne false (by decide)] at q;exact q),fun q=>Gr.owns (gx.2 (by rw[getD_set_ne false (by decide)] at q;exact q)) gg⟩,kp f0,kp f1,kp f2,fun _=>rfl,kp f4,kp f5,kp f6,kp f7,kp f8,kp f9,kp f10,kp f11,kp f12,kp f13,kp f14,kp f15,kp f16,kp f17,kp f18,fun q=>(let⟨B,e,h2⟩:=f19 (done_old q (by decide));⟨B,e,fun q2=>(h2 (by rw[getD_set_ne false (by decide)] at q2;exact q2)).gr gg⟩),fun q=>⟨⟨getD_set_true (f20 (done_old q (by decide))).1.1,getD_set_true (f20 (done_old q (by decide))).1.2⟩,Gr.owns (f20 (done_old q (by decide))).2 gg⟩,fun q=>⟨getD_set_true (f21 (done_old q (by decide))).1,(f21 (done_old q (by decide))).2⟩⟩
 ·rintro done a w hsz hnot hdep ⟨t4,t17,t18,t19,t20,t21,t22,t23,t24,t25,t26,t27,t28,t29,t30,t31,t32,t33,t34,t35,t36,t37,rfl,⟨gw,gx⟩,f0,f1,f2,f3,f4,f5,f6,f7,f8,f9,f10,f11,f12,f13,f14,f15,f16,f17,f18,f19,f20,f21⟩ K hK
  have hn:¬done.getD 4 false=true:=by rw[getD_both hnot];decide
  have d3:=hdep 3 (by kernel_rfl)
  obtain rfl:=f3 d3
  have HK:=PLift.up hK
  clear hK d3
  simp only[cl6A]
  go_simp
  have gg:Gr w w:=Gr.refl _
  refine HK.down _ _ ⟨_,_,_,_,_,_,_,_,_,_,_,_,_,_,_,_,_,_,_,_,_,_,rfl,⟨gw,fun q=>gx.1 (by rw[getD_set_ne false (by decide)] at q;exact q),fun q=>Gr.owns (gx.2 (by rw[getD_set_ne false (by decide)] at q;exact q)) gg⟩,kp f0,kp f1,kp f2,kp f3,fun _=>rfl,kp f5,kp f6,kp f7,kp f8,kp f9,kp f10,kp f11,kp f12,kp f13,kp f14,kp f15,kp f16,kp f17,kp f18,fun q=>(let⟨B,e,h2⟩:=f19 (done_old q (by decide));⟨B,e,fun q2=>(h2 (by rw[getD_set_ne false (by decide)] at q2;exact q2)).gr gg⟩),fun q=>⟨⟨getD_set_true (f20 (done_old q (by decide))).1.1,getD_set_true (f20 (done_old q (by decide))).1.2⟩,Gr.owns (f20 (done_old q (by decide))).2 gg⟩,fun q=>⟨getD_set_true (f21 (done_old q (by decide))).1,(f21 (done_old q (by decide))).2⟩⟩
 ·rintro done a w hsz hnot hdep ⟨t4,t17,t18,t19,t20,t21,t22,t23,t24,t25,t26,t27,t28,t29,t30,t31,t32,t33,t34,t35,t36,t37,rfl,⟨gw,gx⟩,f0,f1,f2,f3,f4,f5,f6,f7,f8,f9,f10,f11,f12,f13,f14,f15,f16,f17,f18,f19,f20,f21⟩ K hK
  have hn:¬done.getD 5 false=true:=by rw[getD_both hnot];decide
  have HK:=PLift.up hK
  clear hK
  simp only[cl6A]
  go_simp
  have gg:Gr w w:=Gr.refl _
  refine HK.down _ _ ⟨_,_,_,_,_,_,_,_,_,_,_,_,_,_,_,_,_,_,_,_,_,_,rfl,⟨gw,fun q=>gx.1 (by rw[getD_set_ne false (by decide)] at q;exact q),fun q=>Gr.owns (gx.2 (by rw[getD_set_ne false (by decide)] at q;exact q)) gg⟩,kp f0,kp f1,kp f2,kp f3,kp f4,fun _=>rfl,kp f6,kp f7,kp f8,kp f9,kp f10,kp f11,kp f12,kp f13,kp f14,kp f15,kp f16,kp f17,kp f18,fun q=>(let⟨B,e,h2⟩:=f19 (done_old q (by decide));⟨B,e,fun q2=>(h2 (by rw[getD_set_ne false (by decide)] at q2;exact q2)).gr gg⟩),fun q=>⟨⟨getD_set_true (f20 (done_old q (by decide))).1.1,getD_set_true (f20 (done_old q (by decide))).1.2⟩,Gr.owns (f20 (done_old q (by decide))).2 gg⟩,fun q=>⟨getD_set_true (f21 (done_old q (by decide))).1,(f21 (done_old q (by decide))).2⟩⟩
 ·rintro done a w hsz hnot hdep ⟨t4,t17,t18,t19,t20,t21,t22,t23,t24,t25,t26,t27,t28,t29,t30,t31,t32,t33,t34,t35,t36,t37,rfl,⟨gw,gx⟩,f0,f1,f2,f3,f4,f5,f6,f7,f8,f9,f10,f11,f12,f13,f14,f15,f16,f17,f18,f19,f20,f21⟩ K hK
  have hn:¬done.getD 6 false=true:=by rw[getD_both hnot];decide
  have d5:=hdep 5 (by kernel_rfl)
  obtain rfl:=f5 d5
  have HK:=PLift.up hK
  clear hK d5
  simp only[cl6A]
  go_simp
  have gg:Gr w w:=Gr.refl _
  refine HK.down _ _ ⟨_,_,_,_,_,_,_,_,_,_,_,_,_,_,_,_,_,_,_,_,_,_,rfl,⟨gw,fun q=>gx.1 (by rw[getD_set_ne false (by decide)] at q;exact q),fun q=>Gr.owns (gx.2 (by rw[getD_set_ne false (by decide)] at q;exact q)) gg⟩,kp f0,kp f1,kp f2,kp f3,kp f4,kp f5,fun _=>rfl,kp f7,kp f8,kp f9,kp f10,kp f11,kp f12,kp f13,kp f14,kp f15,kp f16,kp f17,kp f18,fun q=>(let⟨B,e,h2⟩:=f19 (done_old q (by decide));⟨B,e,fun q2=>(h2 (by rw[getD_set_ne false (by decide)] at q2;exact q2)).gr gg⟩),fun q=>⟨⟨getD_set_true (f20 (done_old q (by decide))).1.1,getD_set_true (f20 (done_old q (by decide))).1.2⟩,Gr.owns (f20 (done_old q (by decide))).2 gg⟩,fun q=>⟨getD_set_true (f21 (done_old q (by decide))).1,(f21 (done_old q (by decide))).2⟩⟩
 ·rintro done a w hsz hnot hdep ⟨t4,t17,t18,t19,t20,t21,t22,t23,t24,t25,t26,t27,t28,t29,t30,t31,t32,t33,t34,t35,t36,t37,rfl,⟨gw,gx⟩,f0,f1,f2,f3,f4,f5,f6,f7,f8,f9,f10,f11,f12,f13,f14,f15,f16,f17,f18,f19,f20,f21⟩ K hK
  have hn:¬done.getD 7 false=true:=by rw[getD_both hnot];decide
  have d6:=hdep 6 (by kernel_rfl)
  obtain rfl:=f6 d6
  have HK:=PLift.up hK
  clear hK d6
  simp only[cl6A]
  go_simp
  have gg:Gr w w:=Gr.refl _
  refine HK.down _ _ ⟨_,_,_,_,_,_,_,_,_,_,_,_,_,_,_,_,_,_,_,_,_,_,rfl,⟨gw,fun q=>gx.1 (by rw[getD_set_ne false (by decide)] at q;exact q),fun q=>Gr.owns (gx.2 (by rw[getD_set_ne false (by decide)] at q;exact q)) gg⟩,kp f0,kp f1,kp f2,kp f3,kp f4,kp f5,kp f6,fun _=>rfl,kp f8,kp f9,kp f10,kp f11,kp f12,kp f13,kp f14,kp f15,kp f16,kp f17,kp f18,fun q=>(let⟨B,e,h2⟩:=f19 (done_old q (by decide));⟨B,e,fun q2=>(h2 (by rw[getD_set_ne false (by decide)] at q2;exact q2)).gr gg⟩),fun q=>⟨⟨getD_set_true (f20 (done_old q (by decide))).1.1,getD_set_true (f20 (done_old q (by decide))).1.2⟩,Gr.owns (f20 (done_old q (by decide))).2 gg⟩,fun q=>⟨getD_set_true (f21 (done_old q (by decide))).1,(f21 (done_old q (by decide))).2⟩⟩
 ·rintro done a w hsz hnot hdep ⟨t4,t17,t18,t19,t20,t21,t22,t23,t24,t25,t26,t27,t28,t29,t30,t31,t32,t33,t34,t35,t36,t37,rfl,⟨gw,gx⟩,f0,f1,f2,f3,f4,f5,f6,f7,f8,f9,f10,f11,f12,f13,f14,f15,f16,f17,f18,f19,f20,f21⟩ K hK
  have hn:¬done.getD 8 false=true:=by rw[getD_both hnot];decide
  have d7:=hdep 7 (by kernel_rfl)
  obtain rfl:=f7 d7
  have HK:=PLift.up hK
  clear hK d7
  simp only[cl6A]
  go_simp
  have gg:Gr w w:=Gr.refl _
  refine HK.down _ _ ⟨_,_,_,_,_,_,_,_,_,_,_,_,_,_,_,_,_,_,_,_,_,_,rfl,⟨gw,fun q=>gx.1 (by rw[getD_set_ne false (by decide)] at q;exact q),fun q=>Gr.owns (gx.2 (by rw[getD_set_ne false (by decide)] at q;exact q)) gg⟩,kp f0,kp f1,kp f2,kp f3,kp f4,kp f5,kp f6,kp f7,fun _=>rfl,kp f9,kp f10,kp f11,kp f12,kp f13,kp f14,kp f15,kp f16,kp f17,kp f18,fun q=>(let⟨B,e,h2⟩:=f19 (done_old q (by decide));⟨B,e,fun q2=>(h2 (by rw[getD_set_ne false (by decide)] at q2;exact q2)).gr gg⟩),fun q=>⟨⟨getD_set_true (f20 (done_old q (by decide))).1.1,getD_set_true (f20 (done_old q (by decide))).1.2⟩,Gr.owns (f20 (done_old q (by decide))).2 gg⟩,fun q=>⟨getD_set_true (f21 (done_old q (by decide))).1,(f21 (done_old q (by decide))).2⟩⟩
 ·rintro done a w hsz hnot hdep ⟨t4,t17,t18,t19,t20,t21,t22,t23,t24,t25,t26,t27,t28,t29,t30,t31,t32,t33,t34,t35,t36,t37,rfl,⟨gw,gx⟩,f0,f1,f2,f3,f4,f5,f6,f7,f8,f9,f10,f11,f12,f13,f14,f15,f16,f17,f18,f19,f20,f21⟩ K hK
  have hn:¬done.getD 9 false=true:=by rw[getD_both hnot];decide
  have d4:=hdep 4 (by kernel_rfl)
  have d8:=hdep 8 (by kernel_rfl)
  obtain rfl:=f4 d4
  obtain rfl:=f8 d8
  have HK:=PLift.up hK
  clear hK d4 d8
  simp only[cl6A]
  go_simp
  have gg:Gr w w:=Gr.refl _
  refine HK.down _ _ ⟨_,_,_,_,_,_,_,_,_,_,_,_,_,_,_,_,_,_,_,_,_,_,rfl,⟨gw,fun q=>gx.1 (by rw[getD_set_ne false (by decide)] at q;exact q),fun q=>Gr.owns (gx.2 (by rw[getD_set_ne false (by decide)] at q;exact q)) gg⟩,kp f0,kp f1,kp f2,kp f3,kp f4,kp f5,kp f6,kp f7,kp f8,fun _=>rfl,kp f10,kp f11,kp f12,kp f13,kp f14,kp f15,kp f16,kp f17,kp f18,fun q=>(let⟨B,e,h2⟩:=f19 (done_old q (by decide));⟨B,e,fun q2=>(h2 (by rw[getD_set_ne false (by decide)] at q2;exact q2)).gr gg⟩),fun q=>⟨⟨getD_set_true (f20 (done_old q (by decide))).1.1,getD_set_true (f20 (done_old q (by decide))).1.2⟩,Gr.owns (f20 (done_old q (by decide))).2 gg⟩,fun q=>⟨getD_set_true (f21 (done_old q (by decide))).1,(f21 (done_old q (by decide))).2⟩⟩
 ·rintro done a w hsz hnot hdep ⟨t4,t17,t18,t19,t20,t21,t22,t23,t24,t25,t26,t27,t28,t29,t30,t31,t32,t33,t34,t35,t36,t37,rfl,⟨gw,gx⟩,f0,f1,f2,f3,f4,f5,f6,f7,f8,f9,f10,f11,f12,f13,f14,f15,f16,f17,f18,f19,f20,f21⟩ K hK
  have hn:¬done.getD 10 false=true:=by rw[getD_both hnot];decide
  have HK:=PLift.up hK
  clear hK
  simp only[cl6A]
  go_simp
  have gg:Gr w w:=Gr.refl _
  refine HK.down _ _ ⟨_,_,_,_,_,_,_,_,_,_,_,_,_,_,_,_,_,_,_,_,_,_,rfl,⟨gw,fun q=>gx.1 (by rw[getD_set_ne false (by decide)] at q;exact q),fun q=>Gr.owns (gx.2 (by rw[getD_set_ne false (by decide)] at q;exact q)) gg⟩,kp f0,kp f1,kp f2,kp f3,kp f4,kp f5,kp f6,kp f7,kp f8,kp f9,fun _=>rfl,kp f11,kp f12,kp f13,kp f14,kp f15,kp f16,kp f17,kp f18,fun q=>(let⟨B,e,h2⟩:=f19 (done_old q (by decide));⟨B,e,fun q2=>(h2 (by rw[getD_set_ne false (by decide)] at q2;exact q2)).gr gg⟩),fun q=>⟨⟨getD_set_true (f20 (done_old q (by decide))).1.1,getD_set_true (f20 (done_old q (by decide))).1.2⟩,Gr.owns (f20 (done_old q (by decide))).2 gg⟩,fun q=>⟨getD_set_true (f21 (done_old q (by decide))).1,(f21 (done_old q (by decide))).2⟩⟩
 ·rintro done a w hsz hnot hdep ⟨t4,t17,t18,t19,t20,t21,t22,t23,t24,t25,t26,t27,t28,t29,t30,t31,t32,t33,t34,t35,t36,t37,rfl,⟨gw,gx⟩,f0,f1,f2,f3,f4,f5,f6,f7,f8,f9,f10,f11,f12,f13,f14,f15,f16,f17,f18,f19,f20,f21⟩ K hK
  have hn:¬done.getD 11 false=true:=by rw[getD_both hnot];decide
  have d10:=hdep 10 (by kernel_rfl)
  obtain rfl:=f10 d10
  have HK:=PLift.up hK
  clear hK d10
  simp only[cl6A]
  go_simp
  have gg:Gr w w:=Gr.refl _
  refine HK.down _ _ ⟨_,_,_,_,_,_,_,_,_,_,_,_,_,_,_,_,_,_,_,_,_,_,rfl,⟨gw,fun q=>gx.1 (by rw[getD_set_ne false (by decide)] at q;exact q),fun q=>Gr.owns (gx.2 (by rw[getD_set_ne false (by decide)] at q;exact q)) gg⟩,kp f0,kp f1,kp f2,kp f3,kp f4,kp f5,kp f6,kp f7,kp f8,kp f9,kp f10,fun _=>rfl,kp f12,kp f13,kp f14,kp f15,kp f16,kp f17,kp f18,fun q=>(let⟨B,e,h2⟩:=f19 (done_old q (by decide));⟨B,e,fun q2=>(h2 (by rw[getD_set_ne false (by decide)] at q2;exact q2)).gr gg⟩),fun q=>⟨⟨getD_set_true (f20 (done_old q (by decide))).1.1,getD_set_true (f20 (done_old q (by decide))).1.2⟩,Gr.owns (f20 (done_old q (by decide))).2 gg⟩,fun q=>⟨getD_set_true (f21 (done_old q (by decide))).1,(f21 (done_old q (by decide))).2⟩⟩
 ·rintro done a w hsz hnot hdep ⟨t4,t17,t18,t19,t20,t21,t22,t23,t24,t25,t26,t27,t28,t29,t30,t31,t32,t33,t34,t35,t36,t37,rfl,⟨gw,gx⟩,f0,f1,f2,f3,f4,f5,f6,f7,f8,f9,f10,f11,f12,f13,f14,f15,f16,f17,f18,f19,f20,f21⟩ K hK
  have hn:¬done.getD 12 false=true:=by rw[getD_both hnot];decide
  have d11:=hdep 11 (by kernel_rfl)
  obtain rfl:=f11 d11
  have HK:=PLift.up hK
  clear hK d11
  simp only[cl6A]
  go_simp
  have gg:Gr w w:=Gr.refl _
  refine HK.down _ _ ⟨_,_,_,_,_,_,_,_,_,_,_,_,_,_,_,_,_,_,_,_,_,_,rfl,⟨gw,fun q=>gx.1 (by rw[getD_set_ne false (by decide)] at q;exact q),fun q=>Gr.owns (gx.2 (by rw[getD_set_ne false (by decide)] at q;exact q)) gg⟩,kp f0,kp f1,kp f2,kp f3,kp f4,kp f5,kp f6,kp f7,kp f8,kp f9,kp f10,kp f11,fun _=>rfl,kp f13,kp f14,kp f15,kp f16,kp f17,kp f18,fun q=>(let⟨B,e,h2⟩:=f19 (done_old q (by decide));⟨B,e,fun q2=>(h2 (by rw[getD_set_ne false (by decide)] at q2;exact q2)).gr gg⟩),fun q=>⟨⟨getD_set_true (f20 (done_old q (by decide))).1.1,getD_set_true (f20 (done_old q (by decide))).1.2⟩,Gr.owns (f20 (done_old q (by decide))).2 gg⟩,fun q=>⟨getD_set_true (f21 (done_old q (by decide))).1,(f21 (done_old q (by decide))).2⟩⟩
 ·rintro done a w hsz hnot hdep ⟨t4,t17,t18,t19,t20,t21,t22,t23,t24,t25,t26,t27,t28,t29,t30,t31,t32,t33,t34,t35,t36,t37,rfl,⟨gw,gx⟩,f0,f1,f2,f3,f4,f5,f6,f7,f8,f9,f10,f11,f12,f13,f14,f15,f16,f17,f18,f19,f20,f21⟩ K hK
  have hn:¬done.getD 13 false=true:=by rw[getD_both hnot];decide
  have d12:=hdep 12 (by kernel_rfl)
  obtain rfl:=f12 d12
  have HK:=PLift.up hK
  clear hK d12
  simp only[cl6A]
  go_simp
  have gg:Gr w w:=Gr.refl _
  refine HK.down _ _ ⟨_,_,_,_,_,_,_,_,_,_,_,_,_,_,_,_,_,_,_,_,_,_,rfl,⟨gw,fun q=>gx.1 (by rw[getD_set_ne false (by decide)] at q;exact q),fun q=>Gr.owns (gx.2 (by rw[getD_set_ne false (by decide)] at q;exact q)) gg⟩,kp f0,kp f1,kp f2,kp f3,kp f4,kp f5,kp f6,kp f7,kp f8,kp f9,kp f10,kp f11,kp f12,fun _=>rfl,kp f14,kp f15,kp f16,kp f17,kp f18,fun q=>(let⟨B,e,h2⟩:=f19 (done_old q (by decide));⟨B,e,fun q2=>(h2 (by rw[getD_set_ne false (by decide)] at q2;exact q2)).gr gg⟩),fun q=>⟨⟨getD_set_true (f20 (done_old q (by decide))).1.1,getD_set_true (f20 (done_old q (by decide))).1.2⟩,Gr.owns (f20 (done_old q (by decide))).2 gg⟩,fun q=>⟨getD_set_true (f21 (done_old q (by decide))).1,(f21 (done_old q (by decide))).2⟩⟩
 ·rintro done a w hsz hnot hdep ⟨t4,t17,t18,t19,t20,t21,t22,t23,t24,t25,t26,t27,t28,t29,t30,t31,t32,t33,t34,t35,t36,t37,rfl,⟨gw,gx⟩,f0,f1,f2,f3,f4,f5,f6,f7,f8,f9,f10,f11,f12,f13,f14,f15,f16,f17,f18,f19,f20,f21⟩ K hK
  have hn:¬done.getD 14 false=true:=by rw[getD_both hnot];decide
  have d9:=hdep 9 (by kernel_rfl)
  have d13:=hdep 13 (by kernel_rfl)
  obtain rfl:=f9 d9
  obtain rfl:=f13 d13
  have HK:=PLift.up hK
  clear hK d9 d13
  simp only[cl6A]
  go_simp
  have gg:Gr w w:=Gr.refl _
  refine HK.down _ _ ⟨_,_,_,_,_,_,_,_,_,_,_,_,_,_,_,_,_,_,_,_,_,_,rfl,⟨gw,fun q=>gx.1 (by rw[getD_set_ne false (by decide)] at q;exact q),fun q=>Gr.owns (gx.2 (by rw[getD_set_ne false (by decide)] at q;exact q)) gg⟩,kp f0,kp f1,kp f2,kp f3,kp f4,kp f5,kp f6,kp f7,kp f8,kp f9,kp f10,kp f11,kp f12,kp f13,fun _=>rfl,kp f15,kp f16,kp f17,kp f18,fun q=>(let⟨B,e,h2⟩:=f19 (done_old q (by decide));⟨B,e,fun q2=>(h2 (by rw[getD_set_ne false (by decide)] at q2;exact q2)).gr gg⟩),fun q=>⟨⟨getD_set_true (f20 (done_old q (by decide))).1.1,getD_set_true (f20 (done_old q (by decide))).1.2⟩,Gr.owns (f20 (done_old q (by decide))).2 gg⟩,fun q=>⟨getD_set_true (f21 (done_old q (by decide))).1,(f21 (done_old q (by decide))).2⟩⟩
 ·rintro done a w hsz hnot hdep ⟨t4,t17,t18,t19,t20,t21,t22,t23,t24,t25,t26,t27,t28,t29,t30,t31,t32,t33,t34,t35,t36,t37,rfl,⟨gw,gx⟩,f0,f1,f2,f3,f4,f5,f6,f7,f8,f9,f10,f11,f12,f13,f14,f15,f16,f17,f18,f19,f20,f21⟩ K hK
  have hn:¬done.getD 15 false=true:=by rw[getD_both hnot];decide
  have HK:=PLift.up hK
  clear hK
  simp only[cl6A]
  go_simp
  have gg:Gr w w:=Gr.refl _
  refine HK.down _ _ ⟨_,_,_,_,_,_,_,_,_,_,_,_,_,_,_,_,_,_,_,_,_,_,rfl,⟨gw,fun q=>gx.1 (by rw[getD_set_ne false (by decide)] at q;exact q),fun q=>Gr.owns (gx.2 (by rw[getD_set_ne false (by decide)] at q;exact q)) gg⟩,kp f0,kp f1,kp f2,kp f3,kp f4,kp f5,kp f6,kp f7,kp f8,kp f9,kp f10,kp f11,kp f12,kp f13,kp f14,fun _=>rfl,kp f16,kp f17,kp f18,fun q=>(let⟨B,e,h2⟩:=f19 (done_old q (by decide));⟨B,e,fun q2=>(h2 (by rw[getD_set_ne false (by decide)] at q2;exact q2)).gr gg⟩),fun q=>⟨⟨getD_set_true (f20 (done_old q (by decide))).1.1,getD_set_true (f20 (done_old q (by decide))).1.2⟩,Gr.owns (f20 (done_old q (by decide))).2 gg⟩,fun q=>⟨getD_set_true (f21 (done_old q (by decide))).1,(f21 (done_old q (by decide))).2⟩⟩
 ·rintro done a w hsz hnot hdep ⟨t4,t17,t18,t19,t20,t21,t22,t23,t24,t25,t26,t27,t28,t29,t30,t31,t32,t33,t34,t35,t36,t37,rfl,⟨gw,gx⟩,f0,f1,f2,f3,f4,f5,f6,f7,f8,f9,f10,f11,f12,f13,f14,f15,f16,f17,f18,f19,f20,f21⟩ K hK
  have hn:¬done.getD 16 false=true:=by rw[getD_both hnot];decide
  have d15:=hdep 15 (by kernel_rfl)
  obtain rfl:=f15 d15
  have HK:=PLift.up hK
  clear hK d15
  simp only[cl6A]
  go_simp
  have gg:Gr w w:=Gr.refl _
  refine HK.down _ _ ⟨_,_,_,_,_,_,_,_,_,_,_,_,_,_,_,_,_,_,_,_,_,_,rfl,⟨gw,fun q=>gx.1 (by rw[getD_set_ne false (by decide)] at q;exact q),fun q=>Gr.owns (gx.2 (by rw[getD_set_ne false (by decide)] at q;exact q)) gg⟩,kp f0,kp f1,kp f2,kp f3,kp f4,kp f5,kp f6,kp f7,kp f8,kp f9,kp f10,kp f11,kp f12,kp f13,kp f14,kp f15,fun _=>rfl,kp f17,kp f18,fun q=>(let⟨B,e,h2⟩:=f19 (done_old q (by decide));⟨B,e,fun q2=>(h2 (by rw[getD_set_ne false (by decide)] at q2;exact q2)).gr gg⟩),fun q=>⟨⟨getD_set_true (f20 (done_old q (by decide))).1.1,getD_set_true (f20 (done_old q (by decide))).1.2⟩,Gr.owns (f20 (done_old q (by decide))).2 gg⟩,fun q=>⟨getD_set_true (f21 (done_old q (by decide))).1,(f21 (done_old q (by decide))).2⟩⟩
 ·rintro done a w hsz hnot hdep ⟨t4,t17,t18,t19,t20,t21,t22,t23,t24,t25,t26,t27,t28,t29,t30,t31,t32,t33,t34,t35,t36,t37,rfl,⟨gw,gx⟩,f0,f1,f2,f3,f4,f5,f6,f7,f8,f9,f10,f11,f12,f13,f14,f15,f16,f17,f18,f19,f20,f21⟩ K hK
  have hn:¬done.getD 17 false=true:=by rw[getD_both hnot];decide
  have d16:=hdep 16 (by kernel_rfl)
  obtain rfl:=f16 d16
  have HK:=PLift.up hK
  clear hK d16
  simp only[cl6A]
  go_simp
  have gg:Gr w w:=Gr.refl _
  refine HK.down _ _ ⟨_,_,_,_,_,_,_,_,_,_,_,_,_,_,_,_,_,_,_,_,_,_,rfl,⟨gw,fun q=>gx.1 (by rw[getD_set_ne false (by decide)] at q;exact q),fun q=>Gr.owns (gx.2 (by rw[getD_set_ne false (by decide)] at q;exact q)) gg⟩,kp f0,kp f1,kp f2,kp f3,kp f4,kp f5,kp f6,kp f7,kp f8,kp f9,kp f10,kp f11,kp f12,kp f13,kp f14,kp f15,kp f16,fun _=>rfl,kp f18,fun q=>(let⟨B,e,h2⟩:=f19 (done_old q (by decide));⟨B,e,fun q2=>(h2 (by rw[getD_set_ne false (by decide)] at q2;exact q2)).gr gg⟩),fun q=>⟨⟨getD_set_true (f20 (done_old q (by decide))).1.1,getD_set_true (f20 (done_old q (by decide))).1.2⟩,Gr.owns (f20 (done_old q (by decide))).2 gg⟩,fun q=>⟨getD_set_true (f21 (done_old q (by decide))).1,(f21 (done_old q (by decide))).2⟩⟩
 ·rintro done a w hsz hnot hdep ⟨t4,t17,t18,t19,t20,t21,t22,t23,t24,t25,t26,t27,t28,t29,t30,t31,t32,t33,t34,t35,t36,t37,rfl,⟨gw,gx⟩,f0,f1,f2,f3,f4,f5,f6,f7,f8,f9,f10,f11,f12,f13,f14,f15,f16,f17,f18,f19,f20,f21⟩ K hK
  have hn:¬done.getD 18 false=true:=by rw[getD_both hnot];decide
  have d14:=hdep 14 (by kernel_rfl)
  have d17:=hdep 17 (by kernel_rfl)
  obtain rfl:=f14 d14
  obtain rfl:=f17 d17
  have HK:=PLift.up hK
  clear hK d14 d17
  simp only[cl6A]
  go_simp
  have gg:Gr w w:=Gr.refl _
  refine HK.down _ _ ⟨_,_,_,_,_,_,_,_,_,_,_,_,_,_,_,_,_,_,_,_,_,_,rfl,⟨gw,fun q=>gx.1 (by rw[getD_set_ne false (by decide)] at q;exact q),fun q=>Gr.owns (gx.2 (by rw[getD_set_ne false (by decide)] at q;exact q)) gg⟩,kp f0,kp f1,kp f2,kp f3,kp f4,kp f5,kp f6,kp f7,kp f8,kp f9,kp f10,kp f11,kp f12,kp f13,kp f14,kp f15,kp f16,kp f17,fun _=>rfl,fun q=>(let⟨B,e,h2⟩:=f19 (done_old q (by decide));⟨B,e,fun q2=>(h2 (by rw[getD_set_ne false (by decide)] at q2;exact q2)).gr gg⟩),fun q=>⟨⟨getD_set_true (f20 (done_old q (by decide))).1.1,getD_set_true (f20 (done_old q (by decide))).1.2⟩,Gr.owns (f20 (done_old q (by decide))).2 gg⟩,fun q=>⟨getD_set_true (f21 (done_old q (by decide))).1,(f21 (done_old q (by decide))).2⟩⟩
 ·rintro done a w hsz hnot hdep ⟨t4,t17,t18,t19,t20,t21,t22,t23,t24,t25,t26,t27,t28,t29,t30,t31,t32,t33,t34,t35,t36,t37,rfl,⟨gw,gx⟩,f0,f1,f2,f3,f4,f5,f6,f7,f8,f9,f10,f11,f12,f13,f14,f15,f16,f17,f18,f19,f20,f21⟩ K hK
  have hn:¬done.getD 19 false=true:=by rw[getD_both hnot];decide
  have d18:=hdep 18 (by kernel_rfl)
  obtain rfl:=f18 d18
  have HK:=PLift.up hK
  clear hK d18
  simp only[cl6A]
  go_simp
  have gg:Gr w (w.alloc (.cells #[.int .i64 ((num4 c0 c1 c2 c3:Nat):Int)] 3)):=(Gr.refl _).alloc _
  refine HK.down _ _ ⟨_,_,_,_,_,_,_,_,_,_,_,_,_,_,_,_,_,_,_,_,_,_,rfl,⟨gw.trans gg,fun q=>gx.1 (by rw[getD_set_ne false (by decide)] at q;exact q),fun q=>Gr.owns (gx.2 (by rw[getD_set_ne false (by decide)] at q;exact q)) gg⟩,kp f0,kp f1,kp f2,kp f3,kp f4,kp f5,kp f6,kp f7,kp f8,kp f9,kp f10,kp f11,kp f12,kp f13,kp f14,kp f15,kp f16,kp f17,kp f18,?_,fun q=>absurd (f20 (done_old q (by decide))).1.2 hn,fun q=>⟨getD_set_true (f21 (done_old q (by decide))).1,(f21 (done_old q (by decide))).2⟩⟩
  exact fun _=>⟨_,rfl,fun _=>Row.new w _ _⟩
 ·rintro done a w hsz hnot hdep ⟨t4,t17,t18,t19,t20,t21,t22,t23,t24,t25,t26,t27,t28,t29,t30,t31,t32,t33,t34,t35,t36,t37,rfl,⟨gw,gx⟩,f0,f1,f2,f3,f4,f5,f6,f7,f8,f9,f10,f11,f12,f13,f14,f15,f16,f17,f18,f19,f20,f21⟩ K hK
  have hn:¬done.getD 20 false=true:=by rw[getD_both hnot];decide
  have d0:=hdep 0 (by kernel_rfl)
  have d19:=hdep 19 (by kernel_rfl)
  have n20:=getD_both hnot
  obtain⟨B,rfl,r3⟩:=f19 d19
  refine step_append_gets _ rfl _ _ 38 rfl wb.heap.size 3 j0 (.int .i64 0) 1 8 Tryz.underlying38 hj hy0 hy1 hy2 rfl (by decide) x zs.length (nums zs) (by simp[Act.eval,cl6A,f0 d0]) (gx.2 n20) (some ⟨B,0,none⟩) 1 1 (nums [((num4 c0 c1 c2 c3:Nat):Int)]) (by simp[Act.eval,cl6A]) ⟨rfl,fun _=>⟨_,rfl,row_cells (r3 n20)⟩⟩ (nums_one _) (by unfold maxLen;omega) (by omega) gw.size ?_
  intro v w2 hown hgrow _
  refine hK _ _ ⟨_,_,_,_,_,_,_,_,_,_,_,_,_,_,_,_,_,_,_,_,_,_,rfl,⟨gw.grown hgrow (fun k e=>(owns_block (gx.2 n20) k e).1),fun q=>gx.1 (by rw[getD_set_ne false (by decide)] at q;exact q),fun q=>absurd q (by rw[getD_set_same (by rw[hsz];decide)];decide)⟩,fun _=>(by first|rfl|exact f0 d0),kp f1,kp f2,kp f3,kp f4,kp f5,kp f6,kp f7,kp f8,kp f9,kp f10,kp f11,kp f12,kp f13,kp f14,kp f15,kp f16,kp f17,kp f18,fun _=>⟨B,rfl,fun q=>absurd q (by rw[getD_set_same (by rw[hsz];decide)];decide)⟩,?_,fun q=>absurd (f21 (done_old q (by decide))).1 hn⟩
  exact fun _=>⟨⟨getD_set_true d0,getD_set_true d19⟩,by simpa [nums] using hown⟩
 ·rintro done a w hsz hnot hdep ⟨t4,t17,t18,t19,t20,t21,t22,t23,t24,t25,t26,t27,t28,t29,t30,t31,t32,t33,t34,t35,t36,t37,rfl,⟨gw,gx⟩,f0,f1,f2,f3,f4,f5,f6,f7,f8,f9,f10,f11,f12,f13,f14,f15,f16,f17,f18,f19,f20,f21⟩ K hK
  have hn:¬done.getD 21 false=true:=by rw[getD_both hnot];decide
  have d20:=hdep 20 (by kernel_rfl)
  have HK:=PLift.up hK
  clear hK
  simp only[cl6A]
  go_simp
  have gg:Gr w w:=Gr.refl _
  refine HK.down _ _ ⟨_,_,_,_,_,_,_,_,_,_,_,_,_,_,_,_,_,_,_,_,_,_,rfl,⟨gw,fun q=>absurd q (by rw[getD_set_same (by rw[hsz];decide)];decide),fun q=>Gr.owns (gx.2 (by rw[getD_set_ne false (by decide)] at q;exact q)) gg⟩,fun q=>(by first|rfl|exact f0 (done_old q (by decide))),kp f1,kp f2,kp f3,kp f4,kp f5,kp f6,kp f7,kp f8,kp f9,kp f10,kp f11,kp f12,kp f13,kp f14,kp f15,kp f16,kp f17,kp f18,fun q=>(let⟨B,e,h2⟩:=f19 (done_old q (by decide));⟨B,e,fun q2=>(h2 (by rw[getD_set_ne false (by decide)] at q2;exact q2)).gr gg⟩),fun q=>⟨⟨getD_set_true (f20 (done_old q (by decide))).1.1,getD_set_true (f20 (done_old q (by decide))).1.2⟩,Gr.owns (f20 (done_old q (by decide))).2 gg⟩,?_⟩
  exact fun _=>⟨getD_set_true d20,rfl⟩
 ·rintro done a w hall ⟨t4,t17,t18,t19,t20,t21,t22,t23,t24,t25,t26,t27,t28,t29,t30,t31,t32,t33,t34,t35,t36,t37,rfl,⟨gw,gx⟩,f0,f1,f2,f3,f4,f5,f6,f7,f8,f9,f10,f11,f12,f13,f14,f15,f16,f17,f18,f19,f20,f21⟩
  obtain rfl:=(f21 (hall 21 (by decide))).2
  exact h' _ _ _ _ _ _ _ _ _ _ _ _ _ _ _ _ _ _ _ _ _ _ w (f20 (hall 20 (by decide))).2 gw
def strLen:Value→Nat
 | .string s=>s.size
 |_=>0
def GivesCells(w:World)(v:St)(e:Ending)(w':World):Prop:=
 if cellsOk v=true then∃x,e= .returned (.tuple #[x,.bool true])∧w'.ownsRow w.heap.size 3 1 x (cellsL v).length (nums (cellsL v))∧Gr w w'
 else e= .returned (.tuple #[.slice none 0 0,.bool false])∧Gr w w'
theorem cells_step(v:St)(h:v.length%4=0)(k:Nat)(hk:k*4<v.length):∃c0 c1 c2 c3 r,v.drop (k*4)=c0::c1::c2::c3::r∧r=v.drop ((k+1)*4)∧(cellsL v).take (k+1)=(cellsL v).take k++ [((num4 c0 c1 c2 c3:Nat):Int)]:=by
 induction k generalizing v with
 |zero=>
  match v,h,hk with
  | [],_,hk=>simp at hk
  | [_],h,_=>simp at h
  | [_,_],h,_=>simp at h
  | [_,_,_],h,_=>simp at h
  |a::b::c::d::r,_,_=>exact⟨a,b,c,d,r,rfl,by simp,by simp[cellsL]⟩
 |succ k ih=>
  match v,h,hk with
  | [],_,hk=>simp at hk
  | [_],h,_=>simp at h
  | [_,_],h,_=>simp at h
  | [_,_,_],h,_=>simp at h
  |a::b::c::d::r,h,hk=>
   obtain⟨c0,c1,c2,c3,r',e1,e2,e3⟩:=ih r (by simp only[List.length_cons] at h;omega) (by simp only[List.length_cons] at hk;omega)
   refine⟨c0,c1,c2,c3,r',?_,?_,?_⟩
   ·rw[←e1,show(k+1)*4=k*4+4 by omega];simp
   ·rw[e2,show(k+1+1)*4=(k+1)*4+4 by omega];simp
   ·rw[cellsL,List.take_succ_cons,e3,List.take_succ_cons];rfl
theorem cells_any(v:St)(w:World)(hf:v.length≤1000000):Calls Tryz.prog 83 #[.string (bs v)] w (GivesCells w v):=by
 obtain⟨i0,hi,hz0,hz1,hz2⟩:=info_parts infoInt
 by_cases hok:cellsOk v=true
 ·have h1:v.isEmpty=false:=by simp[cellsOk] at hok;simpa using hok.1
  have h2':v.length%4=0:=by simp[cellsOk] at hok;exact hok.2
  have h2:(v.length:Int).tmod 4=0:=by rw[Int.tmod_eq_emod_of_nonneg (by omega)];omega
  have H2:=Lib.hid h2'
  have hll:(cellsL v).length*4=v.length:=by rw[cellsL_length];omega
  have HLL:=Lib.hid hll
  have GC:Hid (∀x w',w'.ownsRow w.heap.size 3 1 x (cellsL v).length (nums (cellsL v))→Gr w w'→GivesCells w v (.returned (.tuple #[x,.bool true])) w'):=Lib.hid fun x w' o g=>by unfold GivesCells;rw[if_pos hok];exact⟨x,rfl,o,g⟩
  clear hok h2' hll
  go_enter Tryz.func83,Tryz.ntmps83
  go_wp2_with fail
  go_loopw [0,4] (fun s x wr=>∃k:Nat,k≤(cellsL v).length∧s= .string (bs (v.drop (k*4)))∧wr.ownsRow w.heap.size 3 1 x ((cellsL v).take k).length (nums ((cellsL v).take k))∧Gr w wr) (fun s _ _=>strLen s)
  case atStart=>exact⟨0,Nat.zero_le _,by simp,World.ownsRow_nil _ _ _ _,Gr.refl _⟩
  case round=>
   obtain⟨k,hk,rfl,ho,hg⟩:=hrel
   have HO:=Lib.hid ho
   have HG:=Lib.hid hg
   clear ho hg
   by_cases hlt:k<(cellsL v).length
   ·obtain⟨c0,c1,c2,c3,r,e1,e2,e3⟩:=cells_step v H2.out k (by have:=HLL.out;omega)
    have E2:=Lib.hid e2
    have E3:=Lib.hid e3
    rw[e1]
    have RL:r.length≤1000000:=by rw[e2];simp;omega
    clear e1 e2 e3
    go_wp2_with fail
    refine wp_code_eq (c:=Code.region 6 (regIn 6 Tryz.f83) true) (by kernel_rfl) (cl6 (wb:=w) (zs:=(cellsL v).take k) HO.out HG.out (by rw[List.length_take];have:=HLL.out;omega) RL ?_)
    intro t4 t17 t18 t19 t20 t21 t22 t23 t24 t25 t26 t27 t28 t29 t30 t31 t32 t33 t34 t35 t36 t37 wx ho2 hg2
    have HO2:=Lib.hid ho2
    have HG2:=Lib.hid hg2
    unfold cl6A
    clear ho2 hg2
    have l4:(4:Int)≤(r.length:Int)+1+1+1+1:=by omega
    go_wp2_with fail
    go_roundw
    case rel=>
     refine⟨k+1,by omega,?_,?_,HG2.out⟩
     ·rw[E2.out]
     ·rw[E3.out,List.length_append];exact HO2.out
    case measure=>simp[strLen];omega
   ·obtain rfl:k=(cellsL v).length:=by omega
    have e:v.drop ((cellsL v).length*4)= []:=by rw[HLL.out];simp
    rw[e]
    have HO3:Hid (wr.ownsRow w.heap.size 3 1 u4 (cellsL v).length (nums (cellsL v))):=Lib.hid (by have:=HO.out;rwa [List.take_length] at this)
    clear HO e
    go_wp2_with fail
    refine bodyPost_ret (v:= .tuple #[u4,.bool true]) (by simp[results,Tryz.results83,go_sem]) rfl ?_
    exact GC.out _ _ HO3.out HG.out
 ·have GC:Hid (∀w',Gr w w'→GivesCells w v (.returned (.tuple #[.slice none 0 0,.bool false])) w'):=Lib.hid fun w' g=>by unfold GivesCells;rw[if_neg hok];exact⟨rfl,g⟩
  by_cases h0:v= []
  ·have h1:v.isEmpty=true:=by simp[h0]
   clear hok h0
   go_enter Tryz.func83,Tryz.ntmps83
   go_wp2_with fail
   refine bodyPost_ret (v:= .tuple #[.slice none 0 0,.bool false]) (by simp[results,Tryz.results83,go_sem]) rfl ?_
   exact GC.out _ (Gr.refl _)
  ·have h1:v.isEmpty=false:=by simpa using h0
   have h2':v.length%4≠0:=by simp[cellsOk] at hok;exact hok h0
   have h2:((v.length:Int).tmod 4==0)=false:=by rw[beq_eq_false_iff_ne,Int.tmod_eq_emod_of_nonneg (by omega)];omega
   have h3:((v.length:Int).tmod 4 !=0)=true:=by rw[bne,h2];rfl
   clear hok h0
   go_enter Tryz.func83,Tryz.ntmps83
   go_wp2_with fail
   refine bodyPost_ret (v:= .tuple #[.slice none 0 0,.bool false]) (by simp[results,Tryz.results83,go_sem]) rfl ?_
   exact GC.out _ (Gr.refl _)
theorem str4(n:Nat):strOfNums [(n:Int)/16777216,(n:Int)/65536%256,(n:Int)/256%256,(n:Int)%256]=bs (cell4 n):=by
 have e1:((n:Int)/16777216).toNat=n/16777216:=by omega
 have e2:((n:Int)/65536%256).toNat=n/65536%256:=by omega
 have e3:((n:Int)/256%256).toNat=n/256%256:=by omega
 have e4:((n:Int)%256).toNat=n%256:=by omega
 have m2:UInt8.ofNat (n/65536%256)=UInt8.ofNat (n/65536):=UInt8.toNat_inj.1 (by simp)
 have m3:UInt8.ofNat (n/256%256)=UInt8.ofNat (n/256):=UInt8.toNat_inj.1 (by simp)
 have m4:UInt8.ofNat (n%256)=UInt8.ofNat n:=UInt8.toNat_inj.1 (by simp)
 unfold strOfNums bs cell4
 simp only[List.map_cons,List.map_nil,e1,e2,e3,e4,m2,m3,m4]
theorem word4_any(n:Nat)(w:World)(hn:n<4294967296):Calls Tryz.prog 133 #[.int .i64 n] w (Grows w (.string (bs (cell4 n)))):=by
 have hc:=run_convert_bytes_arg (P:=Tryz.prog) (w.alloc (.cells #[.int .u8 ((n:Int)/16777216),.int .u8 ((n:Int)/65536%256),.int .u8 ((n:Int)/256%256),.int .u8 ((n:Int)%256)] 5)) 112 5 Tryz.underlying112 Tryz.underlying5 w.heap.size 0 4 4 [(n:Int)/16777216,(n:Int)/65536%256,(n:Int)/256%256,(n:Int)%256] rfl
  (fun i hi=>by
   have:=(Row.new w #[.int .u8 ((n:Int)/16777216),.int .u8 ((n:Int)/65536%256),.int .u8 ((n:Int)/256%256),.int .u8 ((n:Int)%256)] 5).cell i (by simpa using hi)
   rw[Nat.zero_add,this]
   match i,hi with
   |0,_=>rfl
   |1,_=>rfl
   |2,_=>rfl
   |3,_=>rfl) 9 Tryz.underlying9
 rw[str4] at hc
 go_enter Tryz.func133,Tryz.ntmps133
 go_wp2_with fail
 go_ret
 exact⟨rfl,(Gr.refl _).alloc _⟩
theorem eqPrp(p q:Prp)(w:World):(binOp .eql 89 (.agg #[.string (bs p.name),.string (bs p.val)]) (.agg #[.string (bs q.name),.string (bs q.val)])).run Tryz.prog w= .ok (.bool (p==q)) w:=by
 have e:(p==q)=(p.name==q.name&&p.val==q.val):=by
  rw[Bool.eq_iff_iff];simp;constructor
  ·rintro rfl;exact⟨rfl,rfl⟩
  ·rintro⟨h1,h2⟩;cases p;cases q;simp_all
 rw[e]
 have hs:=Tryz.stoodInHeld89
 have hu:=Tryz.underlying89
 have hz:=Tryz.underlying9
 simp[go_sem,hs,hu,hz]
 by_cases h1:p.name=q.name<;>by_cases h2:p.val=q.val<;>simp[h1,h2]
theorem idxP_any(ps:List Prp)(p:Prp)(a:Option Addr)(cap:Nat)(w:World)(h:SlOf 2 RPrp w a ps)(hf:ps.length≤1000000):
  Calls Tryz.prog 152 #[.slice a ps.length cap,.agg #[.string (bs p.name),.string (bs p.val)]] w fun e w'=>∃i:Int,e= .returned (.int .i64 i)∧(decide (0≤i)=ps.contains p)∧Gr w w':=by
 have H:=Lib.hid h
 clear h
 go_enter Tryz.func152,Tryz.ntmps152
 go_wp2_with fail
 have RB:=Lib.hid (Row.new w #[.string (bs p.name),.string (bs p.val)] 89)
 obtain⟨W1,hW1⟩:∃W:World,Hid (W=w.alloc (.cells #[.string (bs p.name),.string (bs p.val)] 89)):=⟨_,Lib.hid rfl⟩
 rw[←hW1.out] at RB ⊢
 have G1:Hid (Gr w W1):=Lib.hid (by rw[hW1.out];exact(Gr.refl _).alloc _)
 obtain⟨P0,hP0⟩:∃N:Nat,Hid (w.heap.size=N):=⟨_,Lib.hid rfl⟩
 rw[hP0.out] at RB ⊢
 clear hW1
 go_loopw [8] (fun i wr=>∃k:Nat,k≤ps.length∧i= .int .i64 k∧(∀j (hj:j<k) (hjl:j<ps.length),¬ps[j]=p)∧Row wr P0 89 [.string (bs p.name),.string (bs p.val)]∧Gr w wr) (fun i _=>ps.length-(intOf i).toNat)
 case atStart=>exact⟨0,Nat.zero_le _,rfl,fun j h=>absurd h (by omega),RB.out,G1.out⟩
 case round=>
  clear RB G1
  obtain⟨k,hk,rfl,hall,hrb,hg⟩:=hrel
  have HA:=Lib.hid hall
  have HG:=Lib.hid hg
  have HRB:=Lib.hid hrb
  have b0:wr.cell? ⟨P0,0,none⟩=some (.string (bs p.name)):=hrb.cell 0 (by simp)
  have b1:wr.cell? ⟨P0,1,none⟩=some (.string (bs p.val)):=hrb.cell 1 (by simp)
  clear hall hg hrb
  by_cases hlt:k<ps.length
  ·obtain⟨b,o,rfl,c0,c1,l0,l1⟩:=prps_at (H.out.gr RPrp.mono HG.out) k hlt
   have hh:=has_of_cell c0
   have hh2:=has_of_cell b0
   have hi1:decide ((k:Int)<ps.length)=true:=by simp;omega
   have heq:=fun W=>eqPrp p ps[k] W
   by_cases hq:ps[k]=p
   ·have hb:(p==ps[k])=true:=by simp[hq]
    simp only[hb] at heq
    have Q:=Lib.hid hq
    clear hq hb
    go_wp2_with fail
    go_quiet (fail)
    go_wp2_with fail
    go_ret
    refine⟨_,rfl,?_,HG.out.drewN _⟩
    rw[show decide (0≤(k:Int))=true by simp,eq_comm,List.contains_iff_mem]
    rw[←Q.out];exact List.getElem_mem hlt
   ·have hb:(p==ps[k])=false:=by rw[beq_eq_false_iff_ne];exact fun e=>hq e.symm
    simp only[hb] at heq
    have Q:=Lib.hid hq
    clear hq hb
    go_wp2_with fail
    go_quiet (fail)
    go_wp2_with fail
    go_roundw
    case rel=>
     refine⟨k+1,by omega,by go_num,fun j hj hjl=>?_,HRB.out.drewN _,HG.out.drewN _⟩
     by_cases e:j=k
     ·subst e;exact Q.out
     ·exact HA.out j (by omega) hjl
    case measure=>simp[intOf];omega
  ·go_wp2_with fail
   go_ret
   refine⟨_,rfl,?_,HG.out⟩
   rw[eq_comm,show decide ((0:Int)≤ -1)=false by simp,←Bool.not_eq_true,List.contains_iff_mem]
   intro hx
   obtain⟨j,hj,e⟩:=List.getElem_of_mem hx
   exact HA.out j (by omega) hj e
theorem conP_any(ps:List Prp)(p:Prp)(a:Option Addr)(cap:Nat)(w:World)(h:SlOf 2 RPrp w a ps)(hf:ps.length≤1000000):
  Calls Tryz.prog 132 #[.slice a ps.length cap,.agg #[.string (bs p.name),.string (bs p.val)]] w (Grows w (.bool (ps.contains p))):=by
 have H:=Lib.hid h
 clear h
 go_enter Tryz.func132,Tryz.ntmps132
 go_wp2_with fail
 refine(idxP_any ps p a cap _ (H.out.gr RPrp.mono ((Gr.refl _).alloc _)) hf).mono ?_
 rintro e w' ⟨x,rfl,hx,O,d,rfl⟩
 have X:=Lib.hid hx
 clear hx
 go_wp2_with fail
 go_ret
 exact⟨ret_bool X.out,((Gr.refl _).alloc _).xt _ _⟩
theorem ph1_any(n:Nod)(a:Option Addr)(cap p q0:Nat)(w:World)(h:SlOf 2 RPrp w a n.props)(hf:n.props.length≤1000000)(hp:p<4294967296)(hq:w.cell? ⟨q0,0,none⟩=some (.int .i64 p)):
  Calls Tryz.prog 131 #[.agg #[.int .i64 n.parent,.string (bs n.name),.slice a n.props.length cap],.pointer (some ⟨q0,0,none⟩)] w (Grows w (.bool (n.props.contains ⟨phS,cell4 p⟩))):=by
 have H:=Lib.hid h
 have hh:=has_of_cell hq
 clear h
 go_enter Tryz.func131,Tryz.ntmps131
 go_wp2_with fail
 refine wp_region_grows (by kernel_rfl) (by kernel_rfl) ?_
 repeat(go_big_quiet_step (first|(go_at_call 133;exact calls_grows (word4_any _ _ hp))|(go_at_call 132;exact calls_grows (conP_any n.props ⟨phS,cell4 p⟩ a cap _ (H.out.gr RPrp.mono (by repeat(first|with_reducible exact Gr.refl _|with_reducible refine Gr.xt _ _ ?_|with_reducible refine Gr.alloc _ ?_))) hf))))
 refine wpQuiet_nil ?_
 rintro _ ⟨⟨O,d9⟩,rfl⟩
 go_wp2_with fail
 go_ret
 exact⟨rfl,((Gr.refl _).alloc _).xt _ _⟩
def FirstAt(o:Option Nat)(i:Int):Prop:=match o with|none=>i= -1|some k=>i=k
theorem idxNod_any(ts:Tr)(a:Option Addr)(cap p q0:Nat)(w:World)(h:SlOf 3 RNod w a ts)(hf:ts.length≤1000000)(hb:∀n∈ts,n.props.length≤1000000)(hp:p<4294967296)(hq:w.cell? ⟨q0,0,none⟩=some (.int .i64 p)):
  Calls Tryz.prog 130 #[.slice a ts.length cap,.func (.func 131) #[] #[.pointer (some ⟨q0,0,none⟩)]] w fun e w'=>∃i:Int,e= .returned (.int .i64 i)∧FirstAt (ts.findIdx? (fun n=>n.props.contains ⟨phS,cell4 p⟩)) i∧Gr w w':=by
 have H:=Lib.hid h
 have HB:=Lib.hid hb
 have HQ:=Lib.hid hq
 clear h hb hq
 go_enter Tryz.func130,Tryz.ntmps130
 go_wp2_with fail
 go_loopw [8] (fun i wr=>∃k:Nat,k≤ts.length∧i= .int .i64 k∧(∀j (hj:j<k) (hjl:j<ts.length),ts[j].props.contains ⟨phS,cell4 p⟩=false)∧Gr w wr) (fun i _=>ts.length-(intOf i).toNat)
 case atStart=>exact⟨0,Nat.zero_le _,rfl,fun j h=>absurd h (by omega),Gr.refl _⟩
 case round=>
  obtain⟨k,hk,rfl,hall,hg⟩:=hrel
  have HA:=Lib.hid hall
  have HG:=Lib.hid hg
  clear hall hg
  by_cases hlt:k<ts.length
  ·obtain⟨b,o,pa,pc,rfl,c0,c1,c2,hps,hpf,hw,hnl⟩:=nods_at (H.out.gr RNod.mono HG.out) k hlt
   have hbk:=HB.out _ (List.getElem_mem hlt)
   obtain⟨n,hn⟩:∃n,n=ts[k]:=⟨_,rfl⟩
   have HN:=Lib.hid hn
   rw[←hn] at c0 c1 c2 hps hbk
   have HPS:=Lib.hid hps
   clear hps hpf hw hnl hn
   have hh:=has_of_cell c0
   have hc:=ph1_any n pa pc p q0 wr HPS.out hbk hp (cell_gr HG.out HQ.out)
   have HC:=Lib.hid hc
   clear hc
   by_cases hv:n.props.contains ⟨phS,cell4 p⟩=true
   ·rw[hv] at HC
    have V:Hid (ts.findIdx? (fun n=>n.props.contains ⟨phS,cell4 p⟩)=some k):=Lib.hid (by
     rw[List.findIdx?_eq_some_iff_getElem]
     exact⟨hlt,by rw[←HN.out];exact hv,fun j hj=>by rw[HA.out j hj (by omega)];simp⟩)
    clear hv
    go_wp2_with (go_at_call 131;refine HC.out.mono ?_;rintro e w' ⟨rfl,O,d,rfl⟩)
    go_ret
    exact⟨_,rfl,by rw[V.out];rfl,HG.out.xt _ _⟩
   ·rw[Bool.not_eq_true] at hv
    rw[hv] at HC
    have V:=Lib.hid hv
    clear hv
    go_wp2_with (go_at_call 131;refine HC.out.mono ?_;rintro e w' ⟨rfl,O,d,rfl⟩)
    go_roundw
    case rel=>
     refine⟨k+1,by omega,by go_num,fun j hj hjl=>?_,HG.out.xt _ _⟩
     by_cases e:j=k
     ·subst e;rw[←HN.out];exact V.out
     ·exact HA.out j (by omega) hjl
    case measure=>simp[intOf];omega
  ·have V:Hid (ts.findIdx? (fun n=>n.props.contains ⟨phS,cell4 p⟩)=none):=Lib.hid (by
    rw[List.findIdx?_eq_none_iff]
    intro x hx
    obtain⟨j,hj,rfl⟩:=List.getElem_of_mem hx
    exact HA.out j (by omega) hj)
   go_wp2_with fail
   go_ret
   exact⟨_,rfl,by rw[V.out];rfl,HG.out⟩
theorem phan_lt{ts:Tr}{p:Int}{k:Nat}(h:phan ts p=some k):k<ts.length:=by
 unfold phan at h
 split at h
 ·exact(List.findIdx?_eq_some_iff_getElem.1 h).1
 ·cases h
theorem GoodT.props{ts:Tr}(h:GoodT ts):∀n∈ts,n.props.length≤24:=fun n hn=>by
 obtain⟨j,hj,rfl⟩:=List.getElem_of_mem hn
 exact(h.big j hj).1
theorem phandle_any(ts:Tr)(a:Option Addr)(cap:Nat)(p:Int)(w:World)(h:SlOf 3 RNod w a ts)(hc:chkT ts=0):
  Calls Tryz.prog 84 #[.agg #[.slice a ts.length cap],.int .i64 p] w
   (Grows w (.tuple #[.int .i64 (((phan ts p).getD 0:Nat):Int),.bool (phan ts p).isSome])):=by
 have H:=Lib.hid h
 have G:=Lib.hid (good_of hc)
 have h120:=(good_of hc).len.2
 clear h
 go_enter Tryz.func84,Tryz.ntmps84
 go_wp2_with fail
 have RB:=Lib.hid (Row.new w #[.slice a ts.length cap] 31)
 obtain⟨W0,hW0⟩:∃W:World,Hid (W=w.alloc (.cells #[.slice a ts.length cap] 31)):=⟨_,Lib.hid rfl⟩
 have RP:=Lib.hid (Row.new W0 #[.int .i64 p] 3)
 obtain⟨W1,hW1⟩:∃W:World,Hid (W=W0.alloc (.cells #[.int .i64 p] 3)):=⟨_,Lib.hid rfl⟩
 have z0:Hid (W0.heap.size=w.heap.size+1):=Lib.hid (by rw[hW0.out];simp)
 rw[←hW0.out] at RB
 rw[←hW1.out,z0.out] at RP
 have G0:Hid (Gr w W0):=Lib.hid (by rw[hW0.out];exact(Gr.refl _).alloc _)
 have G01:Hid (Gr W0 W1):=Lib.hid (by rw[hW1.out];exact(Gr.refl _).alloc _)
 have RB1:=Lib.hid (RB.out.gr G01.out)
 have G1:=Lib.hid (G0.out.trans G01.out)
 rw[←hW0.out,←hW1.out]
 obtain⟨Q0,hQ0⟩:∃N:Nat,Hid (w.heap.size+1=N):=⟨_,Lib.hid rfl⟩
 rw[hQ0.out] at RP ⊢
 obtain⟨P0,hP0⟩:∃N:Nat,Hid (w.heap.size=N):=⟨_,Lib.hid rfl⟩
 rw[hP0.out] at RB1 ⊢
 have b0:W1.cell? ⟨P0,0,none⟩=some (.slice a ts.length cap):=RB1.out.cell 0 (by simp)
 clear hW0 hW1 RB z0 G0 G01 hQ0 hP0
 go_wp2_with fail
 refine(treeCheck_any ts a cap W1 (H.out.gr RNod.mono G1.out) (by unfold Fit;omega)).mono ?_
 rintro e w1 ⟨rfl,hg1⟩
 rw[hc]
 have G2:=Lib.hid (G1.out.trans hg1)
 have c0:w1.cell? ⟨P0,0,none⟩=some (.slice a ts.length cap):=(RB1.out.gr hg1).cell 0 (by simp)
 have c1:w1.cell? ⟨Q0,0,none⟩=some (.int .i64 p):=(RP.out.gr hg1).cell 0 (by simp)
 clear hg1 G1 RB1 RP hc b0
 have hh:=has_of_cell c0
 have hh1:=has_of_cell c1
 by_cases h1:1≤p∧p≤1048576
 ·have k1:decide (p<1)=false:=by simp;omega
  have k2:decide (1048576<p)=false:=by simp;omega
  obtain⟨q,rfl⟩:∃q:Nat,p=q:=⟨p.toNat,by omega⟩
  have F:Hid (phan ts (q:Int)=ts.findIdx? (fun n=>n.props.contains ⟨phS,cell4 q⟩)):=Lib.hid (by unfold phan;rw[if_pos h1,Int.toNat_natCast])
  have hq:q<4294967296:=by omega
  clear h1
  go_wp2_with fail
  refine(idxNod_any ts a cap q Q0 w1 (H.out.gr RNod.mono G2.out) (by omega) (fun n hn=>by have:=G.out.props n hn;omega) hq c1).mono ?_
  rintro e w2 ⟨i,rfl,hi,hg2⟩
  have G3:=Lib.hid (G2.out.trans hg2)
  clear hg2 c0 c1 hh hh1
  cases hz:ts.findIdx? (fun n=>n.props.contains ⟨phS,cell4 q⟩) with
  |none=>
   rw[hz] at hi F
   obtain rfl:i= -1:=hi
   have mx:max (-1:Int) 0=0:=rfl
   clear hz
   go_wp2_with fail
   refine bodyPost_ret (v:= .tuple #[.int .i64 0,.bool false]) (by simp[results,Tryz.results84,go_sem]) rfl ?_
   exact⟨by rw[F.out];rfl,G3.out⟩
  |some k=>
   rw[hz] at hi F
   obtain rfl:i=k:=hi
   have mx:max (k:Int) 0=k:=by omega
   have mx2:(if(k:Int)<0 then(0:Int) else k)=k:=by rw[if_neg (by omega)]
   have kk:decide (0≤(k:Int))=true:=by simp
   clear hz
   go_wp2_with fail
   refine bodyPost_ret (v:= .tuple #[.int .i64 k,.bool true]) (by simp[results,Tryz.results84,go_sem]) rfl ?_
   exact⟨by rw[F.out];rfl,G3.out⟩
 ·have F:Hid (phan ts p=none):=Lib.hid (by unfold phan;rw[if_neg h1])
  by_cases h2:p<1
  ·have k1:decide (p<1)=true:=by simp;omega
   clear h1 h2
   go_wp2_with fail
   refine bodyPost_ret (v:= .tuple #[.int .i64 0,.bool false]) (by simp[results,Tryz.results84,go_sem]) rfl ?_
   exact⟨by rw[F.out];rfl,G2.out⟩
  ·have k1:decide (p<1)=false:=by simp;omega
   have k2:decide (1048576<p)=true:=by simp;omega
   clear h1 h2
   go_wp2_with fail
   refine bodyPost_ret (v:= .tuple #[.int .i64 0,.bool false]) (by simp[results,Tryz.results84,go_sem]) rfl ?_
   exact⟨by rw[F.out];rfl,G2.out⟩
theorem cells_bound:∀(v:St),∀z∈cellsL v,0≤z∧z<4294967296
 | []=>by simp[cellsL]
 | [_]=>by simp[cellsL]
 | [_,_]=>by simp[cellsL]
 | [_,_,_]=>by simp[cellsL]
 |a::b::c::d::r=>by
  intro z hz
  rw[cellsL,List.mem_cons] at hz
  rcases hz with rfl|hz
  ·have:=a.toNat_lt;have:=b.toNat_lt;have:=c.toNat_lt;have:=d.toNat_lt
   unfold num4;omega
  ·exact cells_bound r z hz
theorem cells_wide(v:St):∀z∈cellsL v,Wide z:=fun z hz=>by have:=cells_bound v z hz;unfold Wide;omega
theorem ints_at{w:World}{base:Nat}{v:Value}{zs:List Int}(h:w.ownsRow base 3 1 v zs.length (nums zs))(hw:∀z∈zs,Wide z):∃a c,v= .slice a zs.length c∧zs.length≤c∧SlOf 1 RI w a zs:=by
 rcases Nat.eq_zero_or_pos zs.length with e|e
 ·have:zs= []:=List.eq_nil_of_length_eq_zero e
  subst this
  obtain⟨a,c,e⟩:=owns_slice h
  exact⟨a,c,e,Nat.zero_le _,SlOf.nil _ _ _ _⟩
 ·obtain⟨g,cap,e1,h1,_,hc⟩:=owns_cell h e
  refine⟨_,cap,e1,h1,fun k hk=>⟨g,0,rfl,?_⟩⟩
  rw[Nat.zero_add,Nat.mul_one]
  exact⟨by rw[hc k (by omega)];simp[nums,hk],hw _ (List.getElem_mem hk)⟩
def argV(o:Option Int):Value:= .tuple #[.int .i64 (o.getD 0),.bool o.isSome]
theorem arguments_any(ts:Tr)(a:Option Addr)(cap i:Nat)(cn:St)(w:World)(h:SlOf 3 RNod w a ts)(hc:chkT ts=0)(hi:i<ts.length):
  Calls Tryz.prog 85 #[.agg #[.slice a ts.length cap],.int .i64 i,.string (bs cn)] w (Grows w (argV (argsN ts i cn))):=by
 have H:=Lib.hid h
 have HC:=Lib.hid hc
 have G:=Lib.hid (good_of hc)
 have NE:Hid (ts.getD i default=ts[i]):=Lib.hid (by rw[List.getD_eq_getElem?_getD,List.getElem?_eq_getElem hi];rfl)
 have LV:Hid (∀v,valP ts[i].props cn=some v→v.length≤256):=Lib.hid fun v hv=>by
  unfold valP at hv
  cases hz:ts[i].props.find? (fun p=>p.name==cn) with
  |none=>rw[hz] at hv;cases hv
  |some p=>rw[hz] at hv;cases hv;exact(G.out.big i hi).2 p (List.mem_of_find?_eq_some hz)
 clear h hc
 go_enter Tryz.func85,Tryz.ntmps85
 go_wp2_with fail
 refine(treeValue_any ts a cap i cn _ (H.out.gr RNod.mono ((Gr.refl _).alloc _)) HC.out hi).mono ?_
 rintro e w1 ⟨rfl,O,d,rfl⟩
 cases hz:valP ts[i].props cn with
 |none=>
  have R:Hid (argsN ts i cn=some 0):=Lib.hid (by unfold argsN;rw[NE.out,hz])
  clear hz
  go_wp2_with fail
  refine bodyPost_ret (v:= .tuple #[.int .i64 0,.bool true]) (by simp[results,Tryz.results85,go_sem]) rfl ?_
  exact⟨by rw[R.out];rfl,((Gr.refl _).alloc _).xt _ _⟩
 |some v=>
  have lv:=LV.out v hz
  have R:Hid (argsN ts i cn=if cellsOk v=true∧(cellsL v).length=1∧(cellsL v).getD 0 0≤8 then some ((cellsL v).getD 0 0) else none):=Lib.hid (by unfold argsN;rw[NE.out,hz])
  clear hz
  go_wp2_with fail
  refine(cells_any v _ (by omega)).mono ?_
  intro e w2 hgv
  unfold GivesCells at hgv
  by_cases hok:cellsOk v=true
  ·rw[if_pos hok] at hgv
   obtain⟨x,rfl,ho,hg⟩:=hgv
   have OK:=Lib.hid hok
   have GG:Hid (Gr w w2):=Lib.hid ((((Gr.refl _).alloc _).xt _ _).trans hg)
   obtain⟨xa,xc,rfl,_,hsl⟩:=ints_at ho (cells_wide v)
   have SL:=Lib.hid hsl
   clear hg hok ho hsl
   by_cases hl:(cellsL v).length=1
   ·obtain⟨z,hz⟩:∃z,cellsL v= [z]:=List.length_eq_one_iff.1 hl
    have BZ:=cells_bound v z (by rw[hz];simp)
    rw[hz] at SL R ⊢
    obtain⟨b,o,rfl,c0,_⟩:=SL.out.one 0 (by simp)
    simp only[List.getElem_cons_zero,Nat.add_zero] at c0
    by_cases h8:z≤8
    ·have R2:Hid (argsN ts i cn=some z):=Lib.hid (by rw[R.out,if_pos ⟨OK.out,rfl,by simpa using h8⟩];rfl)
     have kb:decide (8<z)=false:=by simp;omega
     clear h8 hl hz
     go_wp2_with fail
     refine bodyPost_ret (v:= .tuple #[.int .i64 z,.bool true]) (by simp[results,Tryz.results85,go_sem]) rfl ?_
     exact⟨by rw[R2.out];rfl,GG.out⟩
    ·have R2:Hid (argsN ts i cn=none):=Lib.hid (by rw[R.out,if_neg (by rintro⟨_,_,q⟩;exact h8 (by simpa using q))])
     have kb:decide (8<z)=true:=by simp;omega
     clear h8 hl hz
     go_wp2_with fail
     refine bodyPost_ret (v:= .tuple #[.int .i64 0,.bool false]) (by simp[results,Tryz.results85,go_sem]) rfl ?_
     exact⟨by rw[R2.out];rfl,GG.out⟩
   ·have R2:Hid (argsN ts i cn=none):=Lib.hid (by rw[R.out,if_neg (by rintro⟨_,q,_⟩;exact hl q)])
    have kb:(((cellsL v).length:Int) !=1)=true:=by rw[bne_iff_ne];omega
    clear hl
    go_wp2_with fail
    refine bodyPost_ret (v:= .tuple #[.int .i64 0,.bool false]) (by simp[results,Tryz.results85,go_sem]) rfl ?_
    exact⟨by rw[R2.out];rfl,GG.out⟩
  ·rw[if_neg hok] at hgv
   obtain⟨rfl,hg⟩:=hgv
   have R2:Hid (argsN ts i cn=none):=Lib.hid (by rw[R.out,if_neg (by simp[hok])])
   have GG:Hid (Gr w w2):=Lib.hid ((((Gr.refl _).alloc _).xt _ _).trans hg)
   clear hg hok
   go_wp2_with fail
   refine bodyPost_ret (v:= .tuple #[.int .i64 0,.bool false]) (by simp[results,Tryz.results85,go_sem]) rfl ?_
   exact⟨by rw[R2.out];rfl,GG.out⟩
end Go.Proofs.YtdjhnfopdlgliaaGreat
