/- Lemmas and contracts for the proof of LinkAnswers (several texts in one, printed by wip/tools/pack.py): VcG VcH VcI VcJ VcK VcL VcM VcN VcO LqB ShelfS. -/
import Derived.Test.YtdjhnfopdlgliaaGreatLa1pl
import Derived.Test.YtdjhnfopdlgliaaGreatLa1pe
import Derived.Test.YtdjhnfopdlgliaaGreatLa1pg
import Derived.Shelf.Small.Bits
import Derived.Shelf.Small.Strs
import Derived.Shelf.Small.Wraps
import Derived.Shelf.Strconv.Itoa0
import Derived.Shelf.Strings.Search1
import Derived.Shelf.Strings.Search2
import Derived.Shelf.Strings.Search3
import Derived.Shelf.LaysM
import Derived.Shelf.Strings.Shaped
import Derived.Shelf.Sort.Plain
import Derived.Shelf.Strings.Prefix
import Derived.Ground.Names2Prog
import Derived.Shelf.Slices.Clone
import Derived.Shelf.Slices.CompactI
import Derived.Shelf.Slices.SearchI
import Derived.Shelf.Slices.Cells
import Derived.Shelf.Slices.In.SortNone
import Derived.Ground.SlgnProg
import Derived.Shelf.SlicesE.Clone
import Derived.Test.YtdjhnfopdlgliaaGreatProg
set_option maxRecDepth 100000
set_option maxHeartbeats 16000000
set_option linter.unusedVariables false
set_option linter.unusedSimpArgs false
namespace Go.Proofs.YtdjhnfopdlgliaaGreat
open Go.RowKit
open Classical
def GivesSt(base n b len:Nat)(w:World)(e:Ending)(w':World):Prop:=∃(v:Value) (ms:List NM),e= .returned (.agg #[v])∧TrAt base w' v ms∧VB (ms.map NM.n)∧(ms.length=n∨ms.length=n+1)∧Mv b len w w'
theorem step_any(base:Nat)(ms:List NM)(a:Option Addr)(n cap b len:Nat)(w:World)(ht:Tp w b len)(h:TrAt base w (.slice a n cap) ms)(hv:VB (ms.map NM.n))(hbs:b<base∧base≤w.heap.size):
  Calls Tryz.prog 87 #[.pointer (some ⟨b,0,none⟩),.agg #[.slice a n cap]] w (GivesSt base n b len w):=by
 have nl:=h.sl.1
 have H:=Lib.hid ht
 have HT:=Lib.hid h
 have HV:=Lib.hid hv
 have HBS:=Lib.hid hbs
 have NL:=Lib.hid nl
 have LL:Hid ((ms.map NM.n).length=n):=Lib.hid (by rw[List.length_map];exact nl.symm)
 have hb:=ht.has
 clear h hv ht nl hbs
 obtain⟨P0,hP0⟩:∃P:Ending→World→Prop,P=GivesSt base n b len w:=⟨_,rfl⟩
 rw[←hP0]
 have HP0:=Lib.hid hP0
 clear hP0
 go_enter Tryz.func87,Tryz.ntmps87
 go_upto_region 1 with(fail)
 have R1:=Lib.hid ((Row.new w #[.slice a n cap] 31).alloc (.cells #[.slice none 0 0] 31))
 have R2:Hid (Row ((w.alloc (.cells #[.slice a n cap] 31)).alloc (.cells #[.slice none 0 0] 31)) (w.heap.size+1) 31 [.slice none 0 0]):=Lib.hid (by
  have q:=Row.new (w.alloc (.cells #[.slice a n cap] 31)) #[.slice none 0 0] 31
  have e:(w.alloc (.cells #[.slice a n cap] 31)).heap.size=w.heap.size+1:=by simp
  rw[e] at q;exact q)
 obtain⟨W,hW⟩:∃W:World,Hid (W=(w.alloc (.cells #[.slice a n cap] 31)).alloc (.cells #[.slice none 0 0] 31)):=⟨_,Lib.hid rfl⟩
 have GW:Hid (Gr w W):=Lib.hid (by rw[hW.out];exact((Gr.refl _).alloc _).alloc _)
 rw[←hW.out] at R1 R2 ⊢
 obtain⟨PB,hPB⟩:∃N:Nat,Hid (w.heap.size=N):=⟨_,Lib.hid rfl⟩
 have HPB:=Lib.hid hPB.out
 rw[hPB.out] at R1 R2 ⊢
 clear hW hPB
 obtain⟨P2,hP2⟩:∃N:Nat,Hid (PB+1=N):=⟨_,Lib.hid rfl⟩
 have HP2:=Lib.hid hP2.out
 rw[hP2.out] at R2 ⊢
 clear hP2
 have T0:=Lib.hid (H.out.gr GW.out)
 have M0:=Lib.hid (Mv.of_gr H.out GW.out)
 have PBb:PB≠b:=by have:=HPB.out;omega
 have P2b:P2≠b:=by have:=HPB.out;have:=HP2.out;omega
 refine wp_code_eq (c:=Code.region 1 (regIn 1 Tryz.f87) true) (by kernel_rfl) (stp1 (wr:=W) (b:=b) (len:=len) (PB:=PB) (P2:=P2) (n:=n) (cap:=cap) (base:=base) (ad:=a) (ms:=ms) T0.out R1.out ⟨PBb,HBS.out.1,T0.out.has,Nat.le_trans HBS.out.2 GW.out.size,R1.out.has⟩ LL.out HV.out (HT.out.gr GW.out) ?_)
 intro t5 t6 t7 t8 t9 t10 t11 t12 t13 t14 t15 t16 wx ⟨v,er,B,e6,e5,hB,hr,hs⟩ hm hpb
 subst e6
 subst e5
 have MV:=Lib.hid (M0.out.trans H.out.has hm)
 have S1:=Lib.hid hpb
 have S2:=Lib.hid (hm.row R2.out P2b)
 have TX:=Lib.hid (HT.out.mv HBS.out.1 MV.out)
 have BR:=Lib.hid hr
 clear hm hpb hr R1 R2
 unfold stp1A
 rcases hs with⟨h1,h2,rfl⟩|⟨h1,m2,h2,h3,h4⟩
 ·have eb:((er:Int)==0)=false:=by rw[beq_eq_false_iff_ne];omega
  have eb2:((er:Int) !=0)=true:=by rw[bne_iff_ne];omega
  have x0:=S1.out.cell 0 (by simp)
  have hx:=has_of_cell x0
  have z0:=S2.out.cell 0 (by simp)
  have zf:=S2.out.free 0
  have hz:=has_of_cell z0
  clear h1 h2
  go_wp2_with fail
  have RF:=Lib.hid (S2.out.set 0 (.slice a n cap))
  have TF:=Lib.hid (TX.out.box (o:=0) (u:= .slice a n cap) S2.out.ty (by decide) (TX.out.ne_ty S2.out.ty (by decide)))
  have GF:Hid (Mv b len w (wx.setCell ⟨P2,0,none⟩ (.slice a n cap))):=Lib.hid (MV.out.setc (by have:=HPB.out;have:=HP2.out;omega))
  obtain⟨W3,hW3⟩:∃W:World,Hid (W=wx.setCell ⟨P2,0,none⟩ (.slice a n cap)):=⟨_,Lib.hid rfl⟩
  rw[←hW3.out] at RF TF GF ⊢
  have e0:W3.cell? ⟨P2,0,none⟩=some (.slice a n cap):=RF.out.cell 0 (by simp)
  clear hW3
  refine bodyPost_ret (v:= .agg #[.slice a n cap]) (by simp[results,Tryz.results87,e0,go_sem]) rfl ?_
  rw[HP0.out]
  exact⟨_,ms,rfl,TF.out,HV.out,.inl NL.out.symm,GF.out⟩
 ·obtain⟨ya,yc,hv⟩:=owns_slice h2.own
  subst hv
  subst h1
  have T2:=Lib.hid h2
  have V2:=Lib.hid h3
  have x0:=BR.out.cell 0 (by simp)
  have hx:=has_of_cell x0
  have z0:=S2.out.cell 0 (by simp)
  have zf:=S2.out.free 0
  have hz:=has_of_cell z0
  have L2:=Lib.hid h4
  clear h2 h3 h4
  go_wp2_with fail
  have RF:=Lib.hid (S2.out.set 0 (.slice ya m2.length yc))
  have TF:=Lib.hid (T2.out.box (o:=0) (u:= .slice ya m2.length yc) S2.out.ty (by decide) (T2.out.ne_ty S2.out.ty (by decide)))
  have GF:Hid (Mv b len w (wx.setCell ⟨P2,0,none⟩ (.slice ya m2.length yc))):=Lib.hid (MV.out.setc (by have:=HPB.out;have:=HP2.out;omega))
  obtain⟨W3,hW3⟩:∃W:World,Hid (W=wx.setCell ⟨P2,0,none⟩ (.slice ya m2.length yc)):=⟨_,Lib.hid rfl⟩
  rw[←hW3.out] at RF TF GF ⊢
  have e0:W3.cell? ⟨P2,0,none⟩=some (.slice ya m2.length yc):=RF.out.cell 0 (by simp)
  clear hW3
  refine bodyPost_ret (v:= .agg #[.slice ya m2.length yc]) (by simp[results,Tryz.results87,e0,go_sem]) rfl ?_
  rw[HP0.out]
  exact⟨_,m2,rfl,TF.out,V2.out,.inr L2.out,GF.out⟩
theorem props_names{s:St}(h:s∈propsL):s∈namesV:=by
 have q:propsL.all (fun s=>namesV.contains s)=true:=by kernel_rfl
 have:=List.all_eq_true.1 q s h
 simpa using this
theorem props_ex{s v:St}(h:s∈propsL):OkX ⟨s,v⟩:=by
 constructor
 ·have q:propsL.contains exS=false:=by kernel_rfl
  rintro rfl
  rw[List.contains_iff_mem.2 h] at q
  cases q
 ·have q:propsL.contains phS=false:=by kernel_rfl
  intro e
  have e:s=phS:=e
  rw[e] at h
  rw[List.contains_iff_mem.2 h] at q
  cases q
def til9F(wr:World)(b len PB P4 n cap base m:Nat)(ad:Option Addr)(ms:List NM)(t8 t9 t33 t34 t35 t36 t37 t38 t39 t40 t41 t42 t43 t44:Value)(d:Array Bool)(w:World):Prop:=
 (Mv b len wr w∧Row w PB 31 [.slice ad n cap])∧(d.getD 0 false=true→t34= .agg #[.slice ad n cap])∧
 (d.getD 1 false=true→t35= .pointer (some ⟨b,0,none⟩))∧
 (d.getD 2 false=true→t36= .agg #[.slice ad n cap])∧
 (d.getD 3 false=true→∃s:St,t37= .string (bs s))∧
 (d.getD 4 false=true→t38= .pointer (some ⟨b,0,none⟩))∧
 (d.getD 5 false=true→∃x:St,t39= .string (bs x)∧x∈propsL)∧
 (d.getD 6 false=true→t40= .pointer (some ⟨b,0,none⟩))∧
 (d.getD 7 false=true→∃z:St,t41= .string (bs z)∧z.length≤100)∧
 (d.getD 8 false=true→∃(v:Value) (er:Nat),t42= .tuple #[.agg #[v],.int .i64 (er:Int)]∧StepV base m w v er)∧
 (d.getD 9 false=true→(d.getD 8 false=true∧t33=t42))∧
 (d.getD 10 false=true→(d.getD 8 false=true∧∃(v:Value) (er:Nat),t42= .tuple #[.agg #[v],.int .i64 (er:Int)]∧t43= .agg #[v]))∧
 (d.getD 11 false=true→(d.getD 8 false=true∧∃(v:Value) (er:Nat),t42= .tuple #[.agg #[v],.int .i64 (er:Int)]∧t44= .int .i64 (er:Int)))∧
 (d.getD 12 false=true→∃B,t8= .pointer (some ⟨B,0,none⟩)∧wr.heap.size≤B∧(d.getD 13 false=false→Row w B 31 [.slice none 0 0]))∧
 (d.getD 13 false=true→(d.getD 8 false=true∧d.getD 12 false=true∧∃(v:Value) (er B:Nat),t42= .tuple #[.agg #[v],.int .i64 (er:Int)]∧t8= .pointer (some ⟨B,0,none⟩)∧wr.heap.size≤B∧Row w B 31 [v]))∧
 (d.getD 14 false=true→(d.getD 8 false=true∧∃(v:Value) (er:Nat),t42= .tuple #[.agg #[v],.int .i64 (er:Int)]∧t9= .int .i64 (er:Int)))
def til9A(b P4 PB:Nat)(t8 t9 t33 t34 t35 t36 t37 t38 t39 t40 t41 t42 t43 t44 s1 s2 s3 s6 s7 s10 s11 s12 s13 s14 s15 s16 s17 s18 s19 s20 s21 s22 s23 s24 s25 s26 s27 s28 s29 s30 s31 s32 s45 s46 s47 s48:Value):Act:={tmps:= #[.pointer (some ⟨b,0,none⟩),s1,s2,s3,.pointer (some ⟨P4,0,none⟩),.pointer (some ⟨PB,0,none⟩),s6,s7,t8,t9,s10,s11,s12,s13,s14,s15,s16,s17,s18,s19,s20,s21,s22,s23,s24,s25,s26,s27,s28,s29,s30,s31,s32,t33,t34,t35,t36,t37,t38,t39,t40,t41,t42,t43,t44,s45,s46,s47,s48],defers:= []}
theorem til9{Q:Exit→Act→World→Prop}{wr:World}{b len PB P4 n cap base m:Nat}{ad:Option Addr}{ms:List NM}{s1 s2 s3 s6 s7 s8 s9 s10 s11 s12 s13 s14 s15 s16 s17 s18 s19 s20 s21 s22 s23 s24 s25 s26 s27 s28 s29 s30 s31 s32 s33 s34 s35 s36 s37 s38 s39 s40 s41 s42 s43 s44 s45 s46 s47 s48:Value}(htp:Tp wr b len)(hrow:Row wr PB 31 [.slice ad n cap])(hnb:PB≠b∧b<base∧b<wr.heap.size∧base≤wr.heap.size∧PB<wr.heap.size)(hl:(ms.map NM.n).length=n)(hm1:n=m+1)(hv:VB (ms.map NM.n))(htr:TrAt base wr (.slice ad n cap) ms)
  (h':∀t8 t9 t33 t34 t35 t36 t37 t38 t39 t40 t41 t42 t43 t44 wx,(∃(v:Value) (er B:Nat),t9= .int .i64 (er:Int)∧t8= .pointer (some ⟨B,0,none⟩)∧wr.heap.size≤B∧Row wx B 31 [v]∧StepV base m wx v er)→Mv b len wr wx→Row wx PB 31 [.slice ad n cap]→Q .normal (til9A b P4 PB t8 t9 t33 t34 t35 t36 t37 t38 t39 t40 t41 t42 t43 t44 s1 s2 s3 s6 s7 s10 s11 s12 s13 s14 s15 s16 s17 s18 s19 s20 s21 s22 s23 s24 s25 s26 s27 s28 s29 s30 s31 s32 s45 s46 s47 s48) wx):
  (Code.region 9 (regIn 9 Tryz.f44) true).wp Tryz.prog Q {tmps:= #[.pointer (some ⟨b,0,none⟩),s1,s2,s3,.pointer (some ⟨P4,0,none⟩),.pointer (some ⟨PB,0,none⟩),s6,s7,s8,s9,s10,s11,s12,s13,s14,s15,s16,s17,s18,s19,s20,s21,s22,s23,s24,s25,s26,s27,s28,s29,s30,s31,s32,s33,s34,s35,s36,s37,s38,s39,s40,s41,s42,s43,s44,s45,s46,s47,s48],defers:= []} wr:=by
 have HTP:=PLift.up htp
 have HRW:=PLift.up hrow
 have HNB:=PLift.up (show PB≠b∧b<base∧(b<wr.heap.size∧PB<wr.heap.size)∧base≤wr.heap.size from⟨hnb.1,hnb.2.1,⟨hnb.2.2.1,hnb.2.2.2.2⟩,hnb.2.2.2.1⟩)
 have HL:=PLift.up hl
 have HM1:=PLift.up hm1
 have HV:=PLift.up hv
 have HTR:=PLift.up htr
 have HBS:=PLift.up htp.has
 clear htp hrow hnb hl hm1 hv htr
 simp only[regIn,Tryz.f44,regOps,Option.bind_some,Option.getD_some,Nat.beq,cond_true,cond_false]
 refine wp_region_steps (fun done a w=>∃t8 t9 t33 t34 t35 t36 t37 t38 t39 t40 t41 t42 t43 t44,a=til9A b P4 PB t8 t9 t33 t34 t35 t36 t37 t38 t39 t40 t41 t42 t43 t44 s1 s2 s3 s6 s7 s10 s11 s12 s13 s14 s15 s16 s17 s18 s19 s20 s21 s22 s23 s24 s25 s26 s27 s28 s29 s30 s31 s32 s45 s46 s47 s48∧til9F wr b len PB P4 n cap base m ad ms t8 t9 t33 t34 t35 t36 t37 t38 t39 t40 t41 t42 t43 t44 done w) (by kernel_rfl) (by kernel_rfl) ?_ ⟨?_,?_,?_,?_,?_,?_,?_,?_,?_,?_,?_,?_,?_,?_,?_,trivial⟩ ?_
 ·exact⟨s8,s9,s33,s34,s35,s36,s37,s38,s39,s40,s41,s42,s43,s44,rfl,⟨Mv.of_gr HTP.down (Gr.refl _).drew,HRW.down.drew⟩,fun q=>absurd q (by decide),fun q=>absurd q (by decide),fun q=>absurd q (by decide),fun q=>absurd q (by decide),fun q=>absurd q (by decide),fun q=>absurd q (by decide),fun q=>absurd q (by decide),fun q=>absurd q (by decide),fun q=>absurd q (by decide),fun q=>absurd q (by decide),fun q=>absurd q (by decide),fun q=>absurd q (by decide),fun q=>absurd q (by decide),fun q=>absurd q (by decide),fun q=>absurd q (by decide)⟩
 ·rintro done a w hsz hnot hdep ⟨t8,t9,t33,t34,t35,t36,t37,t38,t39,t40,t41,t42,t43,t44,rfl,gw,f0,f1,f2,f3,f4,f5,f6,f7,f8,f9,f10,f11,f12,f13,f14⟩ K hK
  have hn:¬done.getD 0 false=true:=by rw[getD_both hnot];decide
  have c0:w.cell? ⟨PB,0,none⟩=some (.slice ad n cap):=gw.2.cell 0 (by simp)
  have ch:=has_of_cell c0
  have HK:=PLift.up hK
  clear hK
  simp only[til9A]
  go_simp
  have gg:Gr w w:=Gr.refl _
  refine HK.down _ _ ⟨_,_,_,_,_,_,_,_,_,_,_,_,_,_,rfl,gw,fun _=>rfl,kp f1,kp f2,kp f3,kp f4,kp f5,kp f6,kp f7,kp f8,fun q=>(let h:=f9 (done_old q (by decide));⟨getD_set_true h.1,h.2⟩),fun q=>(let h:=f10 (done_old q (by decide));⟨getD_set_true h.1,h.2⟩),fun q=>(let h:=f11 (done_old q (by decide));⟨getD_set_true h.1,h.2⟩),fun q=>(let⟨B,e,h1,h2⟩:=f12 (done_old q (by decide));⟨B,e,h1,fun q2=>h2 (by rw[getD_set_ne false (by decide)] at q2;exact q2)⟩),fun q=>(let⟨h1,h2,v,er,B,e1,e2,h3,h4⟩:=f13 (done_old q (by decide));⟨getD_set_true h1,getD_set_true h2,v,er,B,e1,e2,h3,h4⟩),fun q=>(let h:=f14 (done_old q (by decide));⟨getD_set_true h.1,h.2⟩)⟩
 ·rintro done a w hsz hnot hdep ⟨t8,t9,t33,t34,t35,t36,t37,t38,t39,t40,t41,t42,t43,t44,rfl,gw,f0,f1,f2,f3,f4,f5,f6,f7,f8,f9,f10,f11,f12,f13,f14⟩ K hK
  have hn:¬done.getD 1 false=true:=by rw[getD_both hnot];decide
  have HK:=PLift.up hK
  clear hK
  simp only[til9A]
  go_simp
  have gg:Gr w w:=Gr.refl _
  refine HK.down _ _ ⟨_,_,_,_,_,_,_,_,_,_,_,_,_,_,rfl,gw,kp f0,fun _=>rfl,kp f2,kp f3,kp f4,kp f5,kp f6,kp f7,kp f8,fun q=>(let h:=f9 (done_old q (by decide));⟨getD_set_true h.1,h.2⟩),fun q=>(let h:=f10 (done_old q (by decide));⟨getD_set_true h.1,h.2⟩),fun q=>(let h:=f11 (done_old q (by decide));⟨getD_set_true h.1,h.2⟩),fun q=>(let⟨B,e,h1,h2⟩:=f12 (done_old q (by decide));⟨B,e,h1,fun q2=>h2 (by rw[getD_set_ne false (by decide)] at q2;exact q2)⟩),fun q=>(let⟨h1,h2,v,er,B,e1,e2,h3,h4⟩:=f13 (done_old q (by decide));⟨getD_set_true h1,getD_set_true h2,v,er,B,e1,e2,h3,h4⟩),fun q=>(let h:=f14 (done_old q (by decide));⟨getD_set_true h.1,h.2⟩)⟩
 ·rintro done a w hsz hnot hdep ⟨t8,t9,t33,t34,t35,t36,t37,t38,t39,t40,t41,t42,t43,t44,rfl,gw,f0,f1,f2,f3,f4,f5,f6,f7,f8,f9,f10,f11,f12,f13,f14⟩ K hK
  have hn:¬done.getD 2 false=true:=by rw[getD_both hnot];decide
  have c0:w.cell? ⟨PB,0,none⟩=some (.slice ad n cap):=gw.2.cell 0 (by simp)
  have ch:=has_of_cell c0
  have HK:=PLift.up hK
  clear hK
  simp only[til9A]
  go_simp
  have gg:Gr w w:=Gr.refl _
  refine HK.down _ _ ⟨_,_,_,_,_,_,_,_,_,_,_,_,_,_,rfl,gw,kp f0,kp f1,fun _=>rfl,kp f3,kp f4,kp f5,kp f6,kp f7,kp f8,fun q=>(let h:=f9 (done_old q (by decide));⟨getD_set_true h.1,h.2⟩),fun q=>(let h:=f10 (done_old q (by decide));⟨getD_set_true h.1,h.2⟩),fun q=>(let h:=f11 (done_old q (by decide));⟨getD_set_true h.1,h.2⟩),fun q=>(let⟨B,e,h1,h2⟩:=f12 (done_old q (by decide));⟨B,e,h1,fun q2=>h2 (by rw[getD_set_ne false (by decide)] at q2;exact q2)⟩),fun q=>(let⟨h1,h2,v,er,B,e1,e2,h3,h4⟩:=f13 (done_old q (by decide));⟨getD_set_true h1,getD_set_true h2,v,er,B,e1,e2,h3,h4⟩),fun q=>(let h:=f14 (done_old q (by decide));⟨getD_set_true h.1,h.2⟩)⟩
 ·rintro done a w hsz hnot hdep ⟨t8,t9,t33,t34,t35,t36,t37,t38,t39,t40,t41,t42,t43,t44,rfl,gw,f0,f1,f2,f3,f4,f5,f6,f7,f8,f9,f10,f11,f12,f13,f14⟩ K hK
  have hn:¬done.getD 3 false=true:=by rw[getD_both hnot];decide
  have d1:=hdep 1 (by kernel_rfl)
  have d2:=hdep 2 (by kernel_rfl)
  obtain rfl:=f1 d1
  obtain rfl:=f2 d2
  have TP:=PLift.up (gw.1.tp HTP.down)
  have GW:=PLift.up gw
  have HK:=PLift.up hK
  clear hK d1 d2
  simp only[til9A]
  go_simp
  refine(gPath_any base ms ad n cap b len w TP.down (HTR.down.mv HNB.down.2.1 GW.down.1) HV.down.v ⟨HNB.down.2.1,by have:=GW.down.1.size;have:=HNB.down.2.2.2;omega⟩).mono ?_
  rintro e w2 ⟨s,_,rfl,hm⟩
  (try go_simp)
  refine HK.down _ _ ⟨_,_,_,_,_,_,_,_,_,_,_,_,_,_,rfl,⟨GW.down.1.trans HBS.down hm,hm.row GW.down.2 HNB.down.1⟩,kp f0,kp f1,kp f2,?_,kp f4,kp f5,kp f6,kp f7,fun q=>(let⟨v,er,e,hs⟩:=f8 (done_old q (by decide));⟨v,er,e,hs.mv HNB.down.2.1 hm⟩),fun q=>(let h:=f9 (done_old q (by decide));⟨getD_set_true h.1,h.2⟩),fun q=>(let h:=f10 (done_old q (by decide));⟨getD_set_true h.1,h.2⟩),fun q=>(let h:=f11 (done_old q (by decide));⟨getD_set_true h.1,h.2⟩),fun q=>(let⟨B,e,h1,h2⟩:=f12 (done_old q (by decide));⟨B,e,h1,fun q2=>hm.row (h2 (by rw[getD_set_ne false (by decide)] at q2;exact q2)) (by have:=HNB.down.2.2.1;omega)⟩),fun q=>(let⟨h1,h2,v,er,B,e1,e2,h3,h4⟩:=f13 (done_old q (by decide));⟨getD_set_true h1,getD_set_true h2,v,er,B,e1,e2,h3,hm.row h4 (by have:=HNB.down.2.2.1;omega)⟩),fun q=>(let h:=f14 (done_old q (by decide));⟨getD_set_true h.1,h.2⟩)⟩
  exact fun _=>⟨s,rfl⟩
 ·rintro done a w hsz hnot hdep ⟨t8,t9,t33,t34,t35,t36,t37,t38,t39,t40,t41,t42,t43,t44,rfl,gw,f0,f1,f2,f3,f4,f5,f6,f7,f8,f9,f10,f11,f12,f13,f14⟩ K hK
  have hn:¬done.getD 4 false=true:=by rw[getD_both hnot];decide
  have HK:=PLift.up hK
  clear hK
  simp only[til9A]
  go_simp
  have gg:Gr w w:=Gr.refl _
  refine HK.down _ _ ⟨_,_,_,_,_,_,_,_,_,_,_,_,_,_,rfl,gw,kp f0,kp f1,kp f2,kp f3,fun _=>rfl,kp f5,kp f6,kp f7,kp f8,fun q=>(let h:=f9 (done_old q (by decide));⟨getD_set_true h.1,h.2⟩),fun q=>(let h:=f10 (done_old q (by decide));⟨getD_set_true h.1,h.2⟩),fun q=>(let h:=f11 (done_old q (by decide));⟨getD_set_true h.1,h.2⟩),fun q=>(let⟨B,e,h1,h2⟩:=f12 (done_old q (by decide));⟨B,e,h1,fun q2=>h2 (by rw[getD_set_ne false (by decide)] at q2;exact q2)⟩),fun q=>(let⟨h1,h2,v,er,B,e1,e2,h3,h4⟩:=f13 (done_old q (by decide));⟨getD_set_true h1,getD_set_true h2,v,er,B,e1,e2,h3,h4⟩),fun q=>(let h:=f14 (done_old q (by decide));⟨getD_set_true h.1,h.2⟩)⟩
 ·rintro done a w hsz hnot hdep ⟨t8,t9,t33,t34,t35,t36,t37,t38,t39,t40,t41,t42,t43,t44,rfl,gw,f0,f1,f2,f3,f4,f5,f6,f7,f8,f9,f10,f11,f12,f13,f14⟩ K hK
  have hn:¬done.getD 5 false=true:=by rw[getD_both hnot];decide
  have d4:=hdep 4 (by kernel_rfl)
  obtain rfl:=f4 d4
  have TP:=PLift.up (gw.1.tp HTP.down)
  have GW:=PLift.up gw
  have HK:=PLift.up hK
  clear hK d4
  simp only[til9A]
  go_simp
  refine(property_any w b len TP.down).mono ?_
  rintro e w2 ⟨x,hx,rfl,hm⟩
  (try go_simp)
  refine HK.down _ _ ⟨_,_,_,_,_,_,_,_,_,_,_,_,_,_,rfl,⟨GW.down.1.trans HBS.down hm,hm.row GW.down.2 HNB.down.1⟩,kp f0,kp f1,kp f2,kp f3,kp f4,?_,kp f6,kp f7,fun q=>(let⟨v,er,e,hs⟩:=f8 (done_old q (by decide));⟨v,er,e,hs.mv HNB.down.2.1 hm⟩),fun q=>(let h:=f9 (done_old q (by decide));⟨getD_set_true h.1,h.2⟩),fun q=>(let h:=f10 (done_old q (by decide));⟨getD_set_true h.1,h.2⟩),fun q=>(let h:=f11 (done_old q (by decide));⟨getD_set_true h.1,h.2⟩),fun q=>(let⟨B,e,h1,h2⟩:=f12 (done_old q (by decide));⟨B,e,h1,fun q2=>hm.row (h2 (by rw[getD_set_ne false (by decide)] at q2;exact q2)) (by have:=HNB.down.2.2.1;omega)⟩),fun q=>(let⟨h1,h2,v,er,B,e1,e2,h3,h4⟩:=f13 (done_old q (by decide));⟨getD_set_true h1,getD_set_true h2,v,er,B,e1,e2,h3,hm.row h4 (by have:=HNB.down.2.2.1;omega)⟩),fun q=>(let h:=f14 (done_old q (by decide));⟨getD_set_true h.1,h.2⟩)⟩
  exact fun _=>⟨x,rfl,hx⟩
 ·rintro done a w hsz hnot hdep ⟨t8,t9,t33,t34,t35,t36,t37,t38,t39,t40,t41,t42,t43,t44,rfl,gw,f0,f1,f2,f3,f4,f5,f6,f7,f8,f9,f10,f11,f12,f13,f14⟩ K hK
  have hn:¬done.getD 6 false=true:=by rw[getD_both hnot];decide
  have HK:=PLift.up hK
  clear hK
  simp only[til9A]
  go_simp
  have gg:Gr w w:=Gr.refl _
  refine HK.down _ _ ⟨_,_,_,_,_,_,_,_,_,_,_,_,_,_,rfl,gw,kp f0,kp f1,kp f2,kp f3,kp f4,kp f5,fun _=>rfl,kp f7,kp f8,fun q=>(let h:=f9 (done_old q (by decide));⟨getD_set_true h.1,h.2⟩),fun q=>(let h:=f10 (done_old q (by decide));⟨getD_set_true h.1,h.2⟩),fun q=>(let h:=f11 (done_old q (by decide));⟨getD_set_true h.1,h.2⟩),fun q=>(let⟨B,e,h1,h2⟩:=f12 (done_old q (by decide));⟨B,e,h1,fun q2=>h2 (by rw[getD_set_ne false (by decide)] at q2;exact q2)⟩),fun q=>(let⟨h1,h2,v,er,B,e1,e2,h3,h4⟩:=f13 (done_old q (by decide));⟨getD_set_true h1,getD_set_true h2,v,er,B,e1,e2,h3,h4⟩),fun q=>(let h:=f14 (done_old q (by decide));⟨getD_set_true h.1,h.2⟩)⟩
 ·rintro done a w hsz hnot hdep ⟨t8,t9,t33,t34,t35,t36,t37,t38,t39,t40,t41,t42,t43,t44,rfl,gw,f0,f1,f2,f3,f4,f5,f6,f7,f8,f9,f10,f11,f12,f13,f14⟩ K hK
  have hn:¬done.getD 7 false=true:=by rw[getD_both hnot];decide
  have d6:=hdep 6 (by kernel_rfl)
  obtain rfl:=f6 d6
  have TP:=PLift.up (gw.1.tp HTP.down)
  have GW:=PLift.up gw
  have HK:=PLift.up hK
  clear hK d6
  simp only[til9A]
  go_simp
  refine(value_any w b len TP.down).mono ?_
  rintro e w2 ⟨z,hz,rfl,hm⟩
  (try go_simp)
  refine HK.down _ _ ⟨_,_,_,_,_,_,_,_,_,_,_,_,_,_,rfl,⟨GW.down.1.trans HBS.down hm,hm.row GW.down.2 HNB.down.1⟩,kp f0,kp f1,kp f2,kp f3,kp f4,kp f5,kp f6,?_,fun q=>(let⟨v,er,e,hs⟩:=f8 (done_old q (by decide));⟨v,er,e,hs.mv HNB.down.2.1 hm⟩),fun q=>(let h:=f9 (done_old q (by decide));⟨getD_set_true h.1,h.2⟩),fun q=>(let h:=f10 (done_old q (by decide));⟨getD_set_true h.1,h.2⟩),fun q=>(let h:=f11 (done_old q (by decide));⟨getD_set_true h.1,h.2⟩),fun q=>(let⟨B,e,h1,h2⟩:=f12 (done_old q (by decide));⟨B,e,h1,fun q2=>hm.row (h2 (by rw[getD_set_ne false (by decide)] at q2;exact q2)) (by have:=HNB.down.2.2.1;omega)⟩),fun q=>(let⟨h1,h2,v,er,B,e1,e2,h3,h4⟩:=f13 (done_old q (by decide));⟨getD_set_true h1,getD_set_true h2,v,er,B,e1,e2,h3,hm.row h4 (by have:=HNB.down.2.2.1;omega)⟩),fun q=>(let h:=f14 (done_old q (by decide));⟨getD_set_true h.1,h.2⟩)⟩
  exact fun _=>⟨z,rfl,hz⟩
 ·rintro done a w hsz hnot hdep ⟨t8,t9,t33,t34,t35,t36,t37,t38,t39,t40,t41,t42,t43,t44,rfl,gw,f0,f1,f2,f3,f4,f5,f6,f7,f8,f9,f10,f11,f12,f13,f14⟩ K hK
  have hn:¬done.getD 8 false=true:=by rw[getD_both hnot];decide
  have d0:=hdep 0 (by kernel_rfl)
  have d3:=hdep 3 (by kernel_rfl)
  have d5:=hdep 5 (by kernel_rfl)
  have d7:=hdep 7 (by kernel_rfl)
  obtain rfl:=f0 d0
  obtain⟨s,rfl⟩:=f3 d3
  obtain⟨x,rfl,hx⟩:=f5 d5
  obtain⟨z,rfl,hz⟩:=f7 d7
  have HX:=PLift.up hx
  have HZ:=PLift.up hz
  have GW:=PLift.up gw
  have HK:=PLift.up hK
  clear hK d0
  simp only[til9A]
  go_simp
  have LK:=rSet_ok (ms.map NM.n) ad cap s x z w ((HTR.down.mv HNB.down.2.1 GW.down.1).sl).2 HV.down.v (props_names HX.down) (by have:=HZ.down;omega)
  rw[HL.down] at LK
  refine LK.mono ?_
  rintro e w2 ⟨hg,hq⟩
  have ST:PLift (∃(v:Value) (er:Nat),e= .returned (.tuple #[.agg #[v],.int .i64 (er:Int)])∧StepV base m w2 v er):=PLift.up (by
   rcases hq with⟨rfl,_⟩|⟨k,v,m2,hk,_,rfl,h1,hmp⟩
   ·exact⟨_,4,rfl,.inl ⟨by omega,by omega,rfl⟩⟩
   ·refine⟨v,0,rfl,.inr ⟨rfl,m2,h1.low (by have:=GW.down.1.size;have:=HNB.down.2.2.2;omega),?_,?_⟩⟩
    ·rw[hmp];exact⟨VT_set HV.down.v hk (PV_put (HV.down.v.prp k hk) (props_names HX.down) (by have:=HZ.down;simp only;omega)),HV.down.x.set (noX_put (HV.down.x k) (props_ex HX.down))⟩
    ·have h9:=congrArg List.length hmp
     unfold setN at h9
     rw[List.length_set,List.length_map,HL.down,HM1.down] at h9
     exact h9)
  clear hq
  obtain⟨v,er,rfl,hs⟩:=ST.down
  (try go_simp)
  refine HK.down _ _ ⟨_,_,_,_,_,_,_,_,_,_,_,_,_,_,rfl,⟨GW.down.1.gr hg,GW.down.2.gr hg⟩,kp f0,kp f1,kp f2,fun _=>⟨s,rfl⟩,kp f4,fun _=>⟨x,rfl,HX.down⟩,kp f6,fun _=>⟨z,rfl,HZ.down⟩,?_,fun q=>absurd (f9 (done_old q (by decide))).1 hn,fun q=>absurd (f10 (done_old q (by decide))).1 hn,fun q=>absurd (f11 (done_old q (by decide))).1 hn,fun q=>(let⟨B,e,h1,h2⟩:=f12 (done_old q (by decide));⟨B,e,h1,fun q2=>(h2 (by rw[getD_set_ne false (by decide)] at q2;exact q2)).gr hg⟩),fun q=>absurd (f13 (done_old q (by decide))).1 hn,fun q=>absurd (f14 (done_old q (by decide))).1 hn⟩
  exact fun _=>⟨v,er,rfl,hs⟩
 ·rintro done a w hsz hnot hdep ⟨t8,t9,t33,t34,t35,t36,t37,t38,t39,t40,t41,t42,t43,t44,rfl,gw,f0,f1,f2,f3,f4,f5,f6,f7,f8,f9,f10,f11,f12,f13,f14⟩ K hK
  have hn:¬done.getD 9 false=true:=by rw[getD_both hnot];decide
  have d8:=hdep 8 (by kernel_rfl)
  have D6:=PLift.up d8
  obtain⟨v,er,rfl,hs⟩:=f8 d8
  have HK:=PLift.up hK
  clear hK
  simp only[til9A]
  go_simp
  have gg:Gr w w:=Gr.refl _
  refine HK.down _ _ ⟨_,_,_,_,_,_,_,_,_,_,_,_,_,_,rfl,gw,kp f0,kp f1,kp f2,kp f3,kp f4,kp f5,kp f6,kp f7,fun _=>⟨v,er,rfl,hs⟩,?_,fun q=>(let h:=f10 (done_old q (by decide));⟨getD_set_true h.1,h.2⟩),fun q=>(let h:=f11 (done_old q (by decide));⟨getD_set_true h.1,h.2⟩),fun q=>(let⟨B,e,h1,h2⟩:=f12 (done_old q (by decide));⟨B,e,h1,fun q2=>h2 (by rw[getD_set_ne false (by decide)] at q2;exact q2)⟩),fun q=>(let⟨h1,h2,v,er,B,e1,e2,h3,h4⟩:=f13 (done_old q (by decide));⟨getD_set_true h1,getD_set_true h2,v,er,B,e1,e2,h3,h4⟩),fun q=>(let h:=f14 (done_old q (by decide));⟨getD_set_true h.1,h.2⟩)⟩
  exact fun _=>⟨getD_set_true D6.down,rfl⟩
 ·rintro done a w hsz hnot hdep ⟨t8,t9,t33,t34,t35,t36,t37,t38,t39,t40,t41,t42,t43,t44,rfl,gw,f0,f1,f2,f3,f4,f5,f6,f7,f8,f9,f10,f11,f12,f13,f14⟩ K hK
  have hn:¬done.getD 10 false=true:=by rw[getD_both hnot];decide
  have d9:=hdep 9 (by kernel_rfl)
  obtain⟨D6,rfl⟩:=f9 d9
  have D6:=PLift.up D6
  obtain⟨v,er,rfl,hs⟩:=f8 D6.down
  have HK:=PLift.up hK
  clear hK
  simp only[til9A]
  go_simp
  have gg:Gr w w:=Gr.refl _
  refine HK.down _ _ ⟨_,_,_,_,_,_,_,_,_,_,_,_,_,_,rfl,gw,kp f0,kp f1,kp f2,kp f3,kp f4,kp f5,kp f6,kp f7,fun _=>⟨v,er,rfl,hs⟩,fun _=>⟨getD_set_true D6.down,rfl⟩,?_,fun q=>(let h:=f11 (done_old q (by decide));⟨getD_set_true h.1,h.2⟩),fun q=>(let⟨B,e,h1,h2⟩:=f12 (done_old q (by decide));⟨B,e,h1,fun q2=>h2 (by rw[getD_set_ne false (by decide)] at q2;exact q2)⟩),fun q=>(let⟨h1,h2,v,er,B,e1,e2,h3,h4⟩:=f13 (done_old q (by decide));⟨getD_set_true h1,getD_set_true h2,v,er,B,e1,e2,h3,h4⟩),fun q=>(let h:=f14 (done_old q (by decide));⟨getD_set_true h.1,h.2⟩)⟩
  exact fun _=>⟨getD_set_true D6.down,v,er,rfl,rfl⟩
 ·rintro done a w hsz hnot hdep ⟨t8,t9,t33,t34,t35,t36,t37,t38,t39,t40,t41,t42,t43,t44,rfl,gw,f0,f1,f2,f3,f4,f5,f6,f7,f8,f9,f10,f11,f12,f13,f14⟩ K hK
  have hn:¬done.getD 11 false=true:=by rw[getD_both hnot];decide
  have d9:=hdep 9 (by kernel_rfl)
  obtain⟨D6,rfl⟩:=f9 d9
  have D6:=PLift.up D6
  obtain⟨v,er,rfl,hs⟩:=f8 D6.down
  have HK:=PLift.up hK
  clear hK
  simp only[til9A]
  go_simp
  have gg:Gr w w:=Gr.refl _
  refine HK.down _ _ ⟨_,_,_,_,_,_,_,_,_,_,_,_,_,_,rfl,gw,kp f0,kp f1,kp f2,kp f3,kp f4,kp f5,kp f6,kp f7,fun _=>⟨v,er,rfl,hs⟩,fun _=>⟨getD_set_true D6.down,rfl⟩,fun q=>(let h:=f10 (done_old q (by decide));⟨getD_set_true h.1,h.2⟩),?_,fun q=>(let⟨B,e,h1,h2⟩:=f12 (done_old q (by decide));⟨B,e,h1,fun q2=>h2 (by rw[getD_set_ne false (by decide)] at q2;exact q2)⟩),fun q=>(let⟨h1,h2,v,er,B,e1,e2,h3,h4⟩:=f13 (done_old q (by decide));⟨getD_set_true h1,getD_set_true h2,v,er,B,e1,e2,h3,h4⟩),fun q=>(let h:=f14 (done_old q (by decide));⟨getD_set_true h.1,h.2⟩)⟩
  exact fun _=>⟨getD_set_true D6.down,v,er,rfl,rfl⟩
 ·rintro done a w hsz hnot hdep ⟨t8,t9,t33,t34,t35,t36,t37,t38,t39,t40,t41,t42,t43,t44,rfl,gw,f0,f1,f2,f3,f4,f5,f6,f7,f8,f9,f10,f11,f12,f13,f14⟩ K hK
  have hn:¬done.getD 12 false=true:=by rw[getD_both hnot];decide
  have GS:=PLift.up gw.1.size
  have GW:=PLift.up gw
  have HK:=PLift.up hK
  clear hK
  simp only[til9A]
  go_simp
  have gg:Gr w (w.alloc (.cells #[.slice none 0 0] 31)):=(Gr.refl _).alloc _
  refine HK.down _ _ ⟨_,_,_,_,_,_,_,_,_,_,_,_,_,_,rfl,⟨GW.down.1.gr gg,GW.down.2.gr gg⟩,kp f0,kp f1,kp f2,kp f3,kp f4,kp f5,kp f6,kp f7,fun q=>(let⟨v,er,e,hs⟩:=f8 (done_old q (by decide));⟨v,er,e,hs.gr gg⟩),fun q=>(let h:=f9 (done_old q (by decide));⟨getD_set_true h.1,h.2⟩),fun q=>(let h:=f10 (done_old q (by decide));⟨getD_set_true h.1,h.2⟩),fun q=>(let h:=f11 (done_old q (by decide));⟨getD_set_true h.1,h.2⟩),?_,fun q=>absurd (f13 (done_old q (by decide))).2.1 hn,fun q=>(let h:=f14 (done_old q (by decide));⟨getD_set_true h.1,h.2⟩)⟩
  exact fun _=>⟨_,rfl,GS.down,fun _=>Row.new w _ _⟩
 ·rintro done a w hsz hnot hdep ⟨t8,t9,t33,t34,t35,t36,t37,t38,t39,t40,t41,t42,t43,t44,rfl,gw,f0,f1,f2,f3,f4,f5,f6,f7,f8,f9,f10,f11,f12,f13,f14⟩ K hK
  have hn:¬done.getD 13 false=true:=by rw[getD_both hnot];decide
  have d12:=hdep 12 (by kernel_rfl)
  have d10:=hdep 10 (by kernel_rfl)
  obtain⟨D6,v,er,e14,rfl⟩:=f10 d10
  have D6:=PLift.up D6
  have D10:=PLift.up d12
  subst e14
  obtain⟨v2,er2,e2,hs⟩:=f8 D6.down
  injection e2 with e2
  obtain⟨rfl,he⟩:v=v2∧(er:Int)=er2:=by simpa using e2
  obtain rfl:er=er2:=by omega
  obtain⟨ya,ym,yc,rfl⟩:=hs.one
  obtain⟨B,rfl,hB,hr⟩:=f12 d12
  have n11:=getD_both hnot
  have rb:=hr n11
  have RB:=PLift.up rb
  have z0:=rb.cell 0 (by simp)
  have zf:=rb.free 0
  have zh:=has_of_cell z0
  have HBB:=PLift.up hB
  have GW:=PLift.up gw
  have HK:=PLift.up hK
  clear hK
  simp only[til9A]
  go_simp
  refine HK.down _ _ ⟨_,_,_,_,_,_,_,_,_,_,_,_,_,_,rfl,⟨GW.down.1.setc HBB.down,GW.down.2.oth (by have:=HNB.down.2.2.1;have:=HNB.down.2.2.2;have:=HBB.down;have:=HNB.down.1;omega)⟩,kp f0,kp f1,kp f2,kp f3,kp f4,kp f5,kp f6,kp f7,fun _=>⟨_,er,rfl,hs.box RB.down⟩,fun q=>(let h:=f9 (done_old q (by decide));⟨getD_set_true h.1,h.2⟩),fun _=>⟨getD_set_true D6.down,_,er,rfl,rfl⟩,fun q=>(let h:=f11 (done_old q (by decide));⟨getD_set_true h.1,h.2⟩),fun _=>⟨B,rfl,HBB.down,fun q2=>absurd q2 (by rw[getD_set_same (by rw[hsz];decide)];decide)⟩,?_,fun q=>(let h:=f14 (done_old q (by decide));⟨getD_set_true h.1,h.2⟩)⟩
  exact fun _=>⟨getD_set_true D6.down,getD_set_true D10.down,_,er,B,rfl,rfl,HBB.down,RB.down.set 0 _⟩
 ·rintro done a w hsz hnot hdep ⟨t8,t9,t33,t34,t35,t36,t37,t38,t39,t40,t41,t42,t43,t44,rfl,gw,f0,f1,f2,f3,f4,f5,f6,f7,f8,f9,f10,f11,f12,f13,f14⟩ K hK
  have hn:¬done.getD 14 false=true:=by rw[getD_both hnot];decide
  have d11:=hdep 11 (by kernel_rfl)
  obtain⟨D6,v,er,rfl,rfl⟩:=f11 d11
  have D6:=PLift.up D6
  have HK:=PLift.up hK
  clear hK
  simp only[til9A]
  go_simp
  have gg:Gr w w:=Gr.refl _
  refine HK.down _ _ ⟨_,_,_,_,_,_,_,_,_,_,_,_,_,_,rfl,gw,kp f0,kp f1,kp f2,kp f3,kp f4,kp f5,kp f6,kp f7,kp f8,fun q=>(let h:=f9 (done_old q (by decide));⟨getD_set_true h.1,h.2⟩),fun q=>(let h:=f10 (done_old q (by decide));⟨getD_set_true h.1,h.2⟩),fun _=>⟨getD_set_true D6.down,v,er,rfl,rfl⟩,fun q=>(let⟨B,e,h1,h2⟩:=f12 (done_old q (by decide));⟨B,e,h1,fun q2=>h2 (by rw[getD_set_ne false (by decide)] at q2;exact q2)⟩),fun q=>(let⟨h1,h2,v,er,B,e1,e2,h3,h4⟩:=f13 (done_old q (by decide));⟨getD_set_true h1,getD_set_true h2,v,er,B,e1,e2,h3,h4⟩),?_⟩
  exact fun _=>⟨getD_set_true D6.down,v,er,rfl,rfl⟩
 ·rintro done a w hall ⟨t8,t9,t33,t34,t35,t36,t37,t38,t39,t40,t41,t42,t43,t44,rfl,gw,f0,f1,f2,f3,f4,f5,f6,f7,f8,f9,f10,f11,f12,f13,f14⟩
  refine h' _ _ _ _ _ _ _ _ _ _ _ _ _ _ w ?_ gw.1 gw.2
  obtain⟨v,er,e1,hs⟩:=f8 (hall 8 (by decide))
  obtain⟨_,_,v2,er2,B,e2,e3,h3,h4⟩:=f13 (hall 13 (by decide))
  obtain⟨_,v3,er3,e4,e5⟩:=f14 (hall 14 (by decide))
  subst e1
  obtain⟨rfl,he⟩:v=v2∧(er:Int)=er2:=by simpa using e2
  obtain rfl:er=er2:=by omega
  obtain⟨_,he⟩:v=v3∧(er:Int)=er3:=by simpa using e4
  obtain rfl:er=er3:=by omega
  exact⟨v,er,B,e5,e3,h3,h4,hs⟩
theorem VT_root:VT [⟨-1,[],[]⟩]:=by
 refine⟨by simp,by simp,⟨rfl,rfl⟩,fun i h0 hi=>?_,⟨fun i h0 hi=>?_,fun i h0 hi=>?_,fun i j h0 hij hj=>?_,fun i hi=>?_⟩,fun i h0 hi=>?_,fun i hi=>?_⟩
 all_goals simp only[List.length_cons,List.length_nil] at*
 ·omega
 ·omega
 ·omega
 ·omega
 ·obtain rfl:i=0:=by omega
  exact⟨0,by omega,.zero⟩
 ·omega
 ·obtain rfl:i=0:=by omega
  exact⟨by simp[nd],fun p hp=>by simp[nd] at hp⟩
theorem VB_root:VB [⟨-1,[],[]⟩]:=⟨VT_root,fun i p hp=>by
 cases i with
 |zero=>cases hp
 |succ i=>cases hp⟩
def GivesTree(base n b len:Nat)(w:World)(e:Ending)(w':World):Prop:=∃(v:Value) (ms:List NM),e= .returned (.agg #[v])∧TrAt base w' v ms∧VB (ms.map NM.n)∧ms.length≤n+1∧Mv b len w w'
theorem tree_any(n b len:Nat)(w:World)(ht:Tp w b len)(hn:n≤100):
  Calls Tryz.prog 44 #[.pointer (some ⟨b,0,none⟩),.int .i64 n] w (GivesTree w.heap.size n b len w):=by
 have H:=Lib.hid ht
 have hb:=ht.has
 clear ht
 obtain⟨P0,hP0⟩:∃P:Ending→World→Prop,P=GivesTree w.heap.size n b len w:=⟨_,rfl⟩
 rw[←hP0]
 have HP0:=Lib.hid hP0
 clear hP0
 go_enter Tryz.func44,Tryz.ntmps44
 go_upto_region 2 with(fail)
 obtain⟨w1,hw1⟩:∃W:World,W=w.alloc (.cells #[.slice none 0 0] 31):=⟨_,rfl⟩
 have z1:w1.heap.size=w.heap.size+1:=by rw[hw1];simp
 obtain⟨w2,hw2⟩:∃W:World,W=w1.alloc (.cells #[.int .i64 (-1),.string (bs []),.slice none 0 0] 55):=⟨_,rfl⟩
 have z2:w2.heap.size=w.heap.size+1+1:=by rw[hw2];simp[z1]
 obtain⟨W,hW⟩:∃W:World,W=w2.alloc (.cells #[.slice (some ⟨w.heap.size+1,0,none⟩) 1 1] 31):=⟨_,rfl⟩
 have g2:Gr w2 W:=by rw[hW];exact(Gr.refl _).alloc _
 have g1:Gr w1 W:=by refine Gr.trans ?_ g2;rw[hw2];exact(Gr.refl _).alloc _
 have GW:Hid (Gr w W):=Lib.hid (by refine Gr.trans ?_ g1;rw[hw1];exact(Gr.refl _).alloc _)
 have R4:Hid (Row W w.heap.size 31 [.slice none 0 0]):=Lib.hid (by
  have q:Row w1 w.heap.size 31 [.slice none 0 0]:=by rw[hw1];exact Row.new w _ _
  exact q.gr g1)
 have R5:Hid (Row W (w.heap.size+1+1) 31 [.slice (some ⟨w.heap.size+1,0,none⟩) 1 1]):=Lib.hid (by
  rw[hW,←z2];exact Row.new w2 _ _)
 have TR0:Hid (TrAt w.heap.size W (.slice (some ⟨w.heap.size+1,0,none⟩) 1 1) [⟨⟨-1,[],[]⟩,none,0⟩]):=Lib.hid (by
  have q:w2.ownsRow w.heap.size 55 3 (.slice (some ⟨w.heap.size+1,0,none⟩) 1 1) 1 [.int .i64 (-1),.string (bs []),.slice none 0 0]:=by
   refine⟨rfl,.inr ⟨w.heap.size+1,1,#[.int .i64 (-1),.string (bs []),.slice none 0 0],rfl,by omega,?_,Nat.le_refl _,by unfold maxLen;omega,rfl,rfl⟩⟩
   rw[hw2,←z1]
   exact heap_alloc_new w1 _
  refine⟨Gr.owns q g2,fun m hm=>?_⟩
  rw[List.mem_singleton.1 hm]
  exact⟨World.ownsRow_nil _ _ _ _,⟨by simp,by simp,by simp,by simp,fun p hp=>by cases hp⟩⟩)
 have eW:(((w.alloc (.cells #[.slice none 0 0] 31)).alloc (.cells #[.int .i64 (-1),.string ⟨#[]⟩,.slice none 0 0] 55)).alloc (.cells #[.slice (some ⟨w.heap.size+1,0,none⟩) 1 1] 31))=W:=by rw[hW,hw2,hw1];rfl
 rw[eW]
 clear eW hW hw1 hw2 z1 z2 g1 g2
 obtain⟨P4,hP4⟩:∃N:Nat,Hid (w.heap.size=N):=⟨_,Lib.hid rfl⟩
 have HP4:=Lib.hid hP4.out
 rw[hP4.out] at R4 R5 TR0 HP0 hb ⊢
 clear hP4
 obtain⟨P5,hP5⟩:∃N:Nat,Hid (P4+1+1=N):=⟨_,Lib.hid rfl⟩
 have HP5:=Lib.hid hP5.out
 rw[hP5.out] at R5 ⊢
 clear hP5
 have M0:=Lib.hid (Mv.of_gr H.out GW.out)
 have T0:=Lib.hid (H.out.gr GW.out)
 have PW:Hid (P4≤W.heap.size):=Lib.hid (by have:=GW.out.size;have:=HP4.out;omega)
 have hbw:b<w.heap.size:=H.out.has
 go_wp2_with fail
 refine(nM_any W b len (n+1) T0.out (by omega) (by omega)).mono ?_
 rintro e wa ⟨c,rfl,⟨c0,c1⟩,hma⟩
 have MA:=Lib.hid (M0.out.trans hbw hma)
 have RA5:=Lib.hid (hma.row R5.out (by have:=HP5.out;omega))
 have RA4:=Lib.hid (hma.row R4.out (by omega))
 have TRA:=Lib.hid (TR0.out.mv hb hma)
 clear hma R4 R5 TR0 M0
 go_wp2_with fail
 go_loopw [6] (fun i wr=>∃(m:Int) (v:Value) (ms:List NM),i= .int .i64 m∧0≤m∧m+ms.length≤n+1∧TrAt P4 wr v ms∧VB (ms.map NM.n)∧Row wr P5 31 [v]∧Row wr P4 31 [.slice none 0 0]∧Mv b len w wr) (fun i _=>(intOf i).toNat)
 case atStart=>exact⟨c,_,_,rfl,by omega,by simp;omega,TRA.out,VB_root,RA5.out,RA4.out,MA.out⟩
 case round=>
  obtain⟨m,v,ms,rfl,m0,m1,htr,hvt,hr5,hr4,hm⟩:=hrel
  obtain⟨va,vc,rfl⟩:=owns_slice htr.own
  have TR:=Lib.hid htr
  have VV:=Lib.hid hvt
  have S5:=Lib.hid hr5
  have S4:=Lib.hid hr4
  have MV:=Lib.hid hm
  have TP:=Lib.hid (hm.tp H.out)
  have SZ:Hid (P4≤wr.heap.size):=Lib.hid (by have:=hm.size;have:=HP4.out;omega)
  clear htr hvt hr5 hr4 hm
  have x0:=S5.out.cell 0 (by simp)
  have xf:=S5.out.free 0
  have hx:=has_of_cell x0
  by_cases hlt:0<m
  ·clear x0 xf hx
   have x0:=S5.out.cell 0 (by simp)
   have hx:=has_of_cell x0
   go_wp2_with fail
   refine(step_any P4 ms va ms.length vc b len wr TP.out TR.out VV.out ⟨hb,SZ.out⟩).mono ?_
   rintro e w3 ⟨v3,m3,rfl,h3,hv3,hl3,hm3⟩
   obtain⟨ya,yc,rfl⟩:=owns_slice h3.own
   have T3:=Lib.hid h3
   have V3:=Lib.hid hv3
   have L3:=Lib.hid hl3
   have M3:=Lib.hid (MV.out.trans hbw hm3)
   have Q5:=Lib.hid (hm3.row S5.out (by have:=HP5.out;omega))
   have Q4:=Lib.hid (hm3.row S4.out (by omega))
   clear h3 hv3 hl3 hm3 x0 hx
   have z0:=Q5.out.cell 0 (by simp)
   have zf:=Q5.out.free 0
   have hz:=has_of_cell z0
   go_wp2_with fail
   go_roundw
   case rel=>
    refine⟨m-1,_,m3,by go_num,by omega,by have:=L3.out;omega,T3.out.box Q5.out.ty (by decide) (T3.out.ne_ty Q5.out.ty (by decide)),V3.out,Q5.out.set 0 _,Q4.out.oth (by have:=HP5.out;omega),M3.out.setc (by have:=HP5.out;have:=HP4.out;omega)⟩
   case measure=>simp[intOf];omega
  ·obtain rfl:m=0:=by omega
   clear x0 xf hx
   go_wp2_with fail
   refine(nM_any wr b len (2*n+1) TP.out (by omega) (by omega)).mono ?_
   rintro e wb ⟨d,rfl,⟨d0,d1⟩,hmb⟩
   have MB:=Lib.hid (MV.out.trans hbw hmb)
   have RB5:=Lib.hid (hmb.row S5.out (by have:=HP5.out;omega))
   have RB4:=Lib.hid (hmb.row S4.out (by omega))
   have TRB:=Lib.hid (TR.out.mv hb hmb)
   clear hmb S5 S4 MV TP TR
   go_wp2_with fail
   go_loopw [7] (fun i wr=>∃(m:Int) (v:Value) (ms:List NM),i= .int .i64 m∧(0≤m∧m≤1000)∧ms.length≤n+1∧TrAt P4 wr v ms∧VB (ms.map NM.n)∧Row wr P5 31 [v]∧Row wr P4 31 [.slice none 0 0]∧Mv b len w wr) (fun i _=>(intOf i).toNat)
   case atStart=>exact⟨d,_,ms,rfl,⟨by omega,by omega⟩,by omega,TRB.out,VV.out,RB5.out,RB4.out,MB.out⟩
   case round=>
    clear VV TRB RB5 RB4 MB SZ
    clear m1
    obtain⟨m,v,ms,rfl,⟨m0,mb⟩,m1,htr,hvt,hr5,hr4,hm⟩:=hrel
    obtain⟨va,vc,rfl⟩:=owns_slice htr.own
    have TR:=Lib.hid htr
    have VV:=Lib.hid hvt
    have S5:=Lib.hid hr5
    have S4:=Lib.hid hr4
    have MV:=Lib.hid hm
    have TP:=Lib.hid (hm.tp H.out)
    have SZ:Hid (P4≤wr.heap.size):=Lib.hid (by have:=hm.size;have:=HP4.out;omega)
    clear htr hvt hr5 hr4 hm
    by_cases hlt:0<m
    ·obtain⟨q,hq⟩:∃q,ms.length=q+1:=⟨ms.length-1,by have:=VV.out.v.pos;rw[List.length_map] at this;omega⟩
     have QL:=Lib.hid hq
     clear hq
     have P5b:P5≠b:=by have:=HP5.out;omega
     go_wp2_with fail
     refine wp_code_eq (c:=Code.region 9 (regIn 9 Tryz.f44) true) (by kernel_rfl) (til9 (wr:=wr) (b:=b) (len:=len) (PB:=P5) (P4:=P4) (n:=ms.length) (cap:=vc) (base:=P4) (m:=q) (ad:=va) (ms:=ms) TP.out S5.out ⟨P5b,hb,TP.out.has,SZ.out,S5.out.has⟩ (by rw[List.length_map]) QL.out VV.out TR.out ?_)
     intro t8 t9 t33 t34 t35 t36 t37 t38 t39 t40 t41 t42 t43 t44 wx ⟨v,er,B,e9,e8,hB,hr,hs⟩ hmx hpb
     subst e9
     subst e8
     have MX:=Lib.hid (MV.out.trans hbw hmx)
     have Q5:=Lib.hid hpb
     have Q4:=Lib.hid (hmx.row S4.out (by omega))
     have TX:=Lib.hid (TR.out.mv hb hmx)
     have BR:=Lib.hid hr
     clear hmx hpb hr
     unfold til9A
     rcases hs with⟨h1,h2,rfl⟩|⟨h1,m2,h2,h3,h4⟩
     ·have eb:((er:Int)==0)=false:=by rw[beq_eq_false_iff_ne];omega
      clear h1 h2
      go_wp2_with fail
      go_roundw
      case rel=>exact⟨m-1,_,ms,by go_num,⟨by omega,by omega⟩,m1,TX.out,VV.out,Q5.out,Q4.out,MX.out⟩
      case measure=>simp[intOf];omega
     ·obtain⟨ya,yc,hv⟩:=owns_slice h2.own
      subst hv
      subst h1
      have T2:=Lib.hid h2
      have V2:=Lib.hid h3
      have L2:=Lib.hid h4
      have x0:=BR.out.cell 0 (by simp)
      have hx:=has_of_cell x0
      have z0:=Q5.out.cell 0 (by simp)
      have zf:=Q5.out.free 0
      have hz:=has_of_cell z0
      clear h2 h3 h4
      go_wp2_with fail
      go_roundw
      case rel=>exact⟨m-1,_,m2,by go_num,⟨by omega,by omega⟩,by have:=L2.out;have:=QL.out;omega,T2.out.box Q5.out.ty (by decide) (T2.out.ne_ty Q5.out.ty (by decide)),V2.out,Q5.out.set 0 _,Q4.out.oth (by have:=HP5.out;omega),MX.out.setc (by have:=HP5.out;have:=HP4.out;omega)⟩
      case measure=>simp[intOf];omega
    ·obtain rfl:m=0:=by omega
     have x0:=S5.out.cell 0 (by simp)
     have hx:=has_of_cell x0
     have z0:=S4.out.cell 0 (by simp)
     have zf:=S4.out.free 0
     have hz:=has_of_cell z0
     go_wp2_with fail
     have RF:=Lib.hid (S4.out.set 0 (.slice va ms.length vc))
     have TF:=Lib.hid (TR.out.box (o:=0) (u:= .slice va ms.length vc) S4.out.ty (by decide) (TR.out.ne_ty S4.out.ty (by decide)))
     have GF:Hid (Mv b len w (wr.setCell ⟨P4,0,none⟩ (.slice va ms.length vc))):=Lib.hid (MV.out.setc (by have:=HP4.out;omega))
     obtain⟨W3,hW3⟩:∃W:World,Hid (W=wr.setCell ⟨P4,0,none⟩ (.slice va ms.length vc)):=⟨_,Lib.hid rfl⟩
     rw[←hW3.out] at RF TF GF ⊢
     have e0:W3.cell? ⟨P4,0,none⟩=some (.slice va ms.length vc):=RF.out.cell 0 (by simp)
     clear hW3 x0 hx z0 zf hz
     refine bodyPost_ret (v:= .agg #[.slice va ms.length vc]) (by simp[results,Tryz.results44,e0,go_sem]) rfl ?_
     rw[HP0.out]
     exact⟨_,ms,rfl,TF.out,VV.out,m1,GF.out⟩
end Go.Proofs.YtdjhnfopdlgliaaGreat
namespace Go.Proofs.YtdjhnfopdlgliaaGreat
end Go.Proofs.YtdjhnfopdlgliaaGreat
namespace Go.Proofs.YtdjhnfopdlgliaaGreat
open Go.RowKit
open Classical
def GivesVal(o:Option St)(w:World)(e:Ending)(w':World):Prop:=Gr w w'∧match o with
 |none=>e= .returned (.tuple #[.string (bs []),.bool false])
 |some v=>e= .returned (.tuple #[.string (bs v),.bool true])
theorem valP_at{ps:List Prp}{s:St}{k:Nat}(hk:k<ps.length)(hl:∀j (hj:j<ps.length),j<k→(ps[j]'hj).name≠s)(he:(ps[k]'hk).name=s):valP ps s=some (ps[k]'hk).val:=by
 unfold valP
 have:ps.find? (fun p=>p.name==s)=some (ps[k]'hk):=by
  rw[List.find?_eq_some_iff_getElem]
  refine⟨by simpa using he,k,hk,rfl,fun j hj=>?_⟩
  have:=hl j (by omega) hj
  simpa using this
 rw[this];rfl
theorem valP_no{ps:List Prp}{s:St}(hl:∀j (hj:j<ps.length),(ps[j]'hj).name≠s):valP ps s=none:=by
 unfold valP
 have:ps.find? (fun p=>p.name==s)=none:=by
  rw[List.find?_eq_none]
  intro x hx
  obtain⟨j,hj,rfl⟩:=List.getElem_of_mem hx
  simpa using hl j hj
 rw[this];rfl
theorem rOf_any(n:Nod)(a:Option Addr)(cap:Nat)(s:St)(w:World)(h:SlOf 2 RPrp w a n.props)(hf:n.props.length≤1000000):
  Calls Tryz.prog 18 #[.agg #[.int .i64 n.parent,.string (bs n.name),.slice a n.props.length cap],.string (bs s)] w (GivesVal (valP n.props s) w):=by
 have H:=Lib.hid h
 clear h
 obtain⟨P0,hP0⟩:∃P:Ending→World→Prop,P=GivesVal (valP n.props s) w:=⟨_,rfl⟩
 rw[←hP0]
 have HP0:=Lib.hid hP0
 clear hP0
 go_enter Tryz.func18,Tryz.ntmps18
 go_wp2_with fail
 go_loopw [11] (fun i wr=>∃k:Nat,k≤n.props.length∧i= .int .i64 k∧(∀j (hj:j<n.props.length),j<k→(n.props[j]'hj).name≠s)∧Gr w wr) (fun i _=>n.props.length-(intOf i).toNat)
 case atStart=>exact⟨0,Nat.zero_le _,rfl,fun j _ h=>absurd h (by omega),(Gr.refl _).alloc _⟩
 case round=>
  obtain⟨k,hk,rfl,hall,hg⟩:=hrel
  have HA:=Lib.hid hall
  have HG:=Lib.hid hg
  clear hall hg
  by_cases hlt:k<n.props.length
  ·obtain⟨b,o,rfl,c0,c1,_,_⟩:=prps_at (H.out.gr RPrp.mono HG.out) k hlt
   have VA:=Lib.hid (fun he=>valP_at hlt HA.out (s:=s) he)
   obtain⟨q,hq⟩:∃q,n.props[k]'hlt=q:=⟨_,rfl⟩
   have HQ:=Lib.hid hq
   rw[hq] at c0 c1 VA
   clear hq
   have hh:=has_of_cell c0
   have kk:(k:Int)<n.props.length:=by omega
   by_cases hv:q.name=s
   ·have bv:(q.name==s)=true:=by rw[hv];exact beq_self_eq_true _
    have V:=Lib.hid (VA.out hv)
    clear hv
    go_wp2_with fail
    rw[HP0.out]
    refine⟨HG.out.alloc _,?_⟩
    rw[V.out]
    rfl
   ·have bv:(q.name==s)=false:=by rw[beq_eq_false_iff_ne];exact hv
    have NV:=Lib.hid hv
    clear hv
    go_wp2_with fail
    go_roundw
    case rel=>
     refine⟨k+1,by omega,by go_num,fun j hj hjk=>?_,HG.out.alloc _⟩
     by_cases e:j=k
     ·subst e;rw[HQ.out];exact NV.out
     ·exact HA.out j hj (by omega)
    case measure=>simp[intOf];omega
  ·have V:Hid (valP n.props s=none):=Lib.hid (valP_no (fun j hj=>HA.out j hj (by omega)))
   go_wp2_with fail
   rw[HP0.out]
   refine⟨HG.out,?_⟩
   rw[V.out]
   rfl
def woP(ps:List Prp)(s:St):List Prp:=ps.filter (fun p=>p.name !=s)
theorem rWithout_any(ps:List Prp)(a:Option Addr)(cap:Nat)(s:St)(w:World)(h:SlOf 2 RPrp w a ps)(hf:ps.length≤1000):
  Calls Tryz.prog 48 #[.slice a ps.length cap,.string (bs s)] w fun e w'=>∃v,e= .returned v∧w'.ownsRow w.heap.size 89 2 v (woP ps s).length ((woP ps s).flatMap encP)∧Gr w w':=by
 have H:=Lib.hid h
 clear h
 obtain⟨j0,hj,hy0,hy1,hy2⟩:=info_parts infoPrp
 obtain⟨P0,hP0⟩:∃P:Ending→World→Prop,P=fun e w'=>∃v,e= .returned v∧w'.ownsRow w.heap.size 89 2 v (woP ps s).length ((woP ps s).flatMap encP)∧Gr w w':=⟨_,rfl⟩
 rw[←hP0]
 have HP0:=Lib.hid hP0
 clear hP0
 go_enter Tryz.func48,Tryz.ntmps48
 go_wp2_with fail
 go_loopw [5,10] (fun v i wr=>∃(k:Nat) (qs:List Prp),k≤ps.length∧i= .int .i64 k∧qs=woP (ps.take k) s∧wr.ownsRow w.heap.size 89 2 v qs.length (qs.flatMap encP)∧Gr w wr) (fun _ i _=>ps.length-(intOf i).toNat)
 case atStart=>exact⟨0,[],Nat.zero_le _,rfl,rfl,World.ownsRow_nil _ _ _ _,Gr.refl _⟩
 case round=>
  obtain⟨k,qs,hk,rfl,hqs,ho,hg⟩:=hrel
  obtain⟨va,vc,rfl⟩:=owns_slice ho
  have OW:=Lib.hid ho
  have HG:=Lib.hid hg
  have QS:=Lib.hid hqs
  have QL:qs.length≤1000:=by rw[hqs];unfold woP;refine Nat.le_trans (List.length_filter_le _ _) ?_;rw[List.length_take];omega
  clear ho hg hqs
  by_cases hlt:k<ps.length
  ·obtain⟨b,o,rfl,c0,c1,_,_⟩:=prps_at (H.out.gr RPrp.mono HG.out) k hlt
   have TK:=Lib.hid (List.take_succ_eq_append_getElem hlt)
   obtain⟨q,hq⟩:∃q,ps[k]'hlt=q:=⟨_,rfl⟩
   rw[hq] at c0 c1 TK
   clear hq
   have hh:=has_of_cell c0
   have kk:(k:Int)<ps.length:=by omega
   obtain⟨ql,hql⟩:∃n,qs.length=n:=⟨_,rfl⟩
   have QE:=Lib.hid hql
   rw[hql] at OW QL ⊢
   clear hql
   by_cases hv:q.name=s
   ·have bv:(q.name !=s)=false:=by rw[hv];simp
    have bv2:(q.name==s)=true:=by rw[hv];exact beq_self_eq_true _
    have BV:=Lib.hid bv
    clear hv
    go_wp2_with fail
    go_roundw
    case rel=>
     refine⟨k+1,qs,by omega,by go_num,?_,by rw[QE.out];exact OW.out.alloc _,HG.out.alloc _⟩
     rw[TK.out,QS.out]
     unfold woP
     rw[List.filter_append]
     simp[BV.out]
    case measure=>simp[intOf];omega
   ·have bv:(q.name !=s)=true:=by rw[bne_iff_ne];exact hv
    have bv2:(q.name==s)=false:=by rw[beq_eq_false_iff_ne];exact hv
    have BV:=Lib.hid bv
    clear hv
    have OA:=Lib.hid ((OW.out.alloc (.cells #[.string (bs q.name),.string (bs q.val)] 89)).alloc (.cells #[.string (bs q.name),.string (bs q.val)] 89))
    have NR:=Lib.hid (by have q9:=row_cells (Row.new (wr.alloc (.cells #[.string (bs q.name),.string (bs q.val)] 89)) #[.string (bs q.name),.string (bs q.val)] 89);rw[show(wr.alloc (.cells #[.string (bs q.name),.string (bs q.val)] 89)).heap.size=wr.heap.size+1 by simp] at q9;exact q9)
    have SZ:=HG.out.size
    go_wp2_with (at_builtin;refine wpList_append_own _ rfl _ _ 53 rfl w.heap.size 89 j0 (.agg #[.string (bs []),.string (bs [])]) 2 32 Tryz.underlying53 hj hy0 hy1 hy2 rfl (by decide) _ ql (qs.flatMap encP) rfl OA.out ⟨wr.heap.size+1,0,none⟩ 1 1 [.string (bs q.name),.string (bs q.val)] rfl rfl NR.out (by intro u hu;simp only[List.mem_cons,List.not_mem_nil,or_false] at hu;rcases hu with q|q<;>subst q<;>rfl) (by unfold maxLen;omega) (by omega) (by simp;omega) ?_;intro v6 w6 hown hgrow hloc;obtain⟨x6,z6,rfl⟩:=owns_slice hown;have O7:=Lib.hid hown;have HGz:=Lib.hid hgrow;clear hown hgrow hloc)
    go_roundw
    case rel=>
     refine⟨k+1,qs++ [q],by omega,by go_num,?_,?_,((HG.out.alloc _).alloc _).grown HGz.out (fun j e=>(owns_block OA.out j e).1)⟩
     ·rw[TK.out,QS.out]
      unfold woP
      rw[List.filter_append]
      simp[BV.out]
     ·have:=O7.out
      rw[List.length_append,QE.out,List.flatMap_append]
      simpa [encP] using this
    case measure=>simp[intOf];omega
  ·obtain rfl:k=ps.length:=by omega
   rw[List.take_length] at QS
   go_wp2_with fail
   rw[HP0.out]
   exact⟨_,rfl,by rw[←QS.out];exact OW.out,HG.out⟩
theorem rCells_any(v:St)(w:World)(hf:v.length≤1000000):Calls Tryz.prog 97 #[.string (bs v)] w (GivesCells w v):=by
 by_cases hok:cellsOk v=true
 ·have h1:v≠ []:=by simp[cellsOk] at hok;exact hok.1
  have h2':v.length%4=0:=by simp[cellsOk] at hok;exact hok.2
  have h2:(v.length:Int).tmod 4=0:=by rw[Int.tmod_eq_emod_of_nonneg (by omega)];omega
  have hb0:((v.length:Int)==0)=false:=by rw[beq_eq_false_iff_ne];have:0<v.length:=List.length_pos_iff.2 h1;omega
  have H2:=Lib.hid h2'
  have hll:(cellsL v).length*4=v.length:=by rw[cellsL_length];omega
  have HLL:=Lib.hid hll
  have GC:Hid (∀x w',w'.ownsRow w.heap.size 3 1 x (cellsL v).length (nums (cellsL v))→Gr w w'→GivesCells w v (.returned (.tuple #[x,.bool true])) w'):=Lib.hid fun x w' o g=>by unfold GivesCells;rw[if_pos hok];exact⟨x,rfl,o,g⟩
  clear hok h2' hll h1
  go_enter Tryz.func97,Tryz.ntmps97
  go_wp2_with fail
  go_loopw [4,5] (fun x s wr=>∃k:Nat,k≤(cellsL v).length∧s= .int .i64 ((k*4:Nat):Int)∧wr.ownsRow w.heap.size 3 1 x ((cellsL v).take k).length (nums ((cellsL v).take k))∧Gr w wr) (fun _ s _=>v.length-(intOf s).toNat)
  case atStart=>exact⟨0,Nat.zero_le _,rfl,World.ownsRow_nil _ _ _ _,Gr.refl _⟩
  case round=>
   obtain⟨k,hk,rfl,ho,hg⟩:=hrel
   have HO:=Lib.hid ho
   have HG:=Lib.hid hg
   clear ho hg
   obtain⟨j,hj⟩:∃j:Nat,Hid (k*4=j):=⟨_,Lib.hid rfl⟩
   rw[hj.out]
   have hjl:j≤v.length:=by have:=hj.out;have:=HLL.out;omega
   by_cases hlt:k<(cellsL v).length
   ·obtain⟨c0,c1,c2,c3,r,e1,e2,e3⟩:=cells_step v H2.out k (by have:=HLL.out;omega)
    have E3:=Lib.hid e3
    rw[hj.out] at e1
    have J4:Hid (j+3<v.length):=Lib.hid (by have:=hj.out;have:=HLL.out;omega)
    have at':∀(n:Nat) (h:j+n<v.length),v[j+n]'h=(c0::c1::c2::c3::r)[n]'(by rw[←e1,List.length_drop];omega):=fun n h=>by
     have q:=List.getElem_drop (xs:=v) (i:=j) (j:=n) (h:=by rw[List.length_drop];omega)
     rw[←q]
     congr 1
    have h0:∀h:j<v.length,v[j]'h=c0:=fun h=>at' 0 h
    have h1:∀h:j+1<v.length,v[j+1]'h=c1:=fun h=>at' 1 h
    have h2:∀h:j+2<v.length,v[j+2]'h=c2:=fun h=>at' 2 h
    have h3:∀h:j+3<v.length,v[j+3]'h=c3:=fun h=>at' 3 h
    have A0:=Lib.hid h0
    have A1:=Lib.hid h1
    have A2:=Lib.hid h2
    have A3:=Lib.hid h3
    have kj:(j:Int)<(v.length:Int):=by have:=J4.out;omega
    have hj9:j≤1000000:=by omega
    clear e1 e2 e3 at' h0 h1 h2 h3
    go_upto_region 7 with(fail)
    refine wp_code_eq (c:=Code.region 7 (regIn 7 Tryz.f97) true) (by kernel_rfl) (rc7 (wb:=w) (zs:=(cellsL v).take k) (c0:=c0) (c1:=c1) (c2:=c2) (c3:=c3) HO.out HG.out (by rw[List.length_take];have:=HLL.out;omega) hf J4.out A0.out A1.out A2.out A3.out ?_)
    intro t4 t21 t22 t23 t24 t25 t26 t27 t28 t29 t30 t31 t32 t33 t34 t35 t36 t37 t38 t39 t40 t41 t42 t43 t44 t45 t46 t47 t48 wx ho2 hg2
    have HO2:=Lib.hid ho2
    have HG2:=Lib.hid hg2
    unfold rc7A
    clear ho2 hg2 A0 A1 A2 A3
    go_wp2_with fail
    go_roundw
    case rel=>
     refine⟨k+1,by omega,?_,?_,HG2.out⟩
     ·have:=hj.out
      rw[show(((k+1)*4:Nat):Int)=(j:Int)+4 by omega]
      try go_num
     ·rw[E3.out,List.length_append];exact HO2.out
    case measure=>simp[intOf];have:=J4.out;omega
   ·obtain rfl:k=(cellsL v).length:=by omega
    have e:j=v.length:=by have:=hj.out;have:=HLL.out;omega
    have HO3:Hid (wr.ownsRow w.heap.size 3 1 u4 (cellsL v).length (nums (cellsL v))):=Lib.hid (by have:=HO.out;rwa [List.take_length] at this)
    have kj:¬(j:Int)<(v.length:Int):=by omega
    clear HO e
    go_wp2_with fail
    refine bodyPost_ret (v:= .tuple #[u4,.bool true]) (by simp[results,Tryz.results97,go_sem]) rfl ?_
    exact GC.out _ _ HO3.out HG.out
 ·have GC:Hid (∀w',Gr w w'→GivesCells w v (.returned (.tuple #[.slice none 0 0,.bool false])) w'):=Lib.hid fun w' g=>by unfold GivesCells;rw[if_neg hok];exact⟨rfl,g⟩
  by_cases h0:v= []
  ·subst h0
   clear hok
   go_enter Tryz.func97,Tryz.ntmps97
   go_wp2_with fail
   refine bodyPost_ret (v:= .tuple #[.slice none 0 0,.bool false]) (by simp[results,Tryz.results97,go_sem]) rfl ?_
   exact GC.out _ (Gr.refl _)
  ·have h2':v.length%4≠0:=by simp[cellsOk] at hok;exact hok h0
   have hb0:((v.length:Int)==0)=false:=by rw[beq_eq_false_iff_ne];have:0<v.length:=List.length_pos_iff.2 h0;omega
   have h2:((v.length:Int).tmod 4==0)=false:=by rw[beq_eq_false_iff_ne,Int.tmod_eq_emod_of_nonneg (by omega)];omega
   have h3:((v.length:Int).tmod 4 !=0)=true:=by rw[bne,h2];rfl
   have h5:((v.length:Int)%4 !=0)=true:=by rw[bne_iff_ne];omega
   clear hok h0 h2'
   go_enter Tryz.func97,Tryz.ntmps97
   go_wp2_with fail
   refine bodyPost_ret (v:= .tuple #[.slice none 0 0,.bool false]) (by simp[results,Tryz.results97,go_sem]) rfl ?_
   exact GC.out _ (Gr.refl _)
end Go.Proofs.YtdjhnfopdlgliaaGreat
namespace Go.Proofs
open Go.Shelf
def Tryz.lays189_ren:Go.Shelf.Ren:=⟨fun|189=>105|125=>143|257=>142|128=>168|129=>169|294=>159|295=>160|296=>161|297=>162|298=>163|299=>164|216=>165|300=>166|301=>167|328=>176|329=>177|330=>178|331=>179|332=>180|215=>181|343=>186|n=>n,fun|28=>38|3=>3|46=>113|0=>0|51=>209|53=>211|4=>4|183=>202|182=>201|131=>153|5=>5|9=>9|218=>214|222=>218|228=>222|229=>223|n=>n,fun|n=>n⟩
theorem Tryz.lays189:Go.Proofs.Lays.n189 Tryz.prog Tryz.lays189_ren:={
 mixed:=by kernel_rfl
 f125:=Tryz.func143.trans (congrArg some (by kernel_rfl))
 f128:=Tryz.func168.trans (congrArg some (by kernel_rfl))
 f129:=Tryz.func169.trans (congrArg some (by kernel_rfl))
 f189:=Tryz.func105.trans (congrArg some (by kernel_rfl))
 f215:=Tryz.func181.trans (congrArg some (by kernel_rfl))
 f216:=Tryz.func165.trans (congrArg some (by kernel_rfl))
 f257:=Tryz.func142.trans (congrArg some (by kernel_rfl))
 f294:=Tryz.func159.trans (congrArg some (by kernel_rfl))
 f295:=Tryz.func160.trans (congrArg some (by kernel_rfl))
 f296:=Tryz.func161.trans (congrArg some (by kernel_rfl))
 f297:=Tryz.func162.trans (congrArg some (by kernel_rfl))
 f298:=Tryz.func163.trans (congrArg some (by kernel_rfl))
 f299:=Tryz.func164.trans (congrArg some (by kernel_rfl))
 f300:=Tryz.func166.trans (congrArg some (by kernel_rfl))
 f301:=Tryz.func167.trans (congrArg some (by kernel_rfl))
 f328:=Tryz.func176.trans (congrArg some (by kernel_rfl))
 f329:=Tryz.func177.trans (congrArg some (by kernel_rfl))
 f330:=Tryz.func178.trans (congrArg some (by kernel_rfl))
 f331:=Tryz.func179.trans (congrArg some (by kernel_rfl))
 f332:=Tryz.func180.trans (congrArg some (by kernel_rfl))
 f343:=Tryz.func186.trans (congrArg some (by kernel_rfl))
 t0:=Tryz.underlying0
 a0:=Tryz.isAgg0
 z0:=Tryz.sizeOf0
 v0:=Tryz.zeroValue0
 t3:=Tryz.underlying3
 a3:=Tryz.isAgg3
 z3:=Tryz.sizeOf3
 v3:=Tryz.zeroValue3
 t4:=Tryz.underlying4
 a4:=Tryz.isAgg4
 z4:=Tryz.sizeOf4
 v4:=Tryz.zeroValue4
 t5:=Tryz.underlying5
 a5:=Tryz.isAgg5
 z5:=Tryz.sizeOf5
 v5:=Tryz.zeroValue5
 t9:=Tryz.underlying9
 a9:=Tryz.isAgg9
 z9:=Tryz.sizeOf9
 v9:=Tryz.zeroValue9
 t28:=Tryz.underlying38
 a28:=Tryz.isAgg38
 z28:=Tryz.sizeOf38
 v28:=Tryz.zeroValue38
 t46:=Tryz.underlying113
 a46:=Tryz.isAgg113
 z46:=Tryz.sizeOf113
 v46:=Tryz.zeroValue113
 t51:=Tryz.underlying209
 a51:=Tryz.isAgg209
 z51:=Tryz.sizeOf209
 v51:=Tryz.zeroValue209
 t53:=Tryz.underlying211
 a53:=Tryz.isAgg211
 z53:=Tryz.sizeOf211
 v53:=Tryz.zeroValue211
 t131:=Tryz.underlying153
 a131:=Tryz.isAgg153
 z131:=Tryz.sizeOf153
 v131:=Tryz.zeroValue153
 t182:=Tryz.underlying201
 a182:=Tryz.isAgg201
 z182:=Tryz.sizeOf201
 v182:=Tryz.zeroValue201
 t183:=Tryz.underlying202
 a183:=Tryz.isAgg202
 z183:=Tryz.sizeOf202
 v183:=Tryz.zeroValue202
 t218:=Tryz.underlying214
 a218:=Tryz.isAgg214
 z218:=Tryz.sizeOf214
 v218:=Tryz.zeroValue214
 t222:=Tryz.underlying218
 a222:=Tryz.isAgg218
 z222:=Tryz.sizeOf218
 v222:=Tryz.zeroValue218
 t228:=Tryz.underlying222
 a228:=Tryz.isAgg222
 z228:=Tryz.sizeOf222
 v228:=Tryz.zeroValue222
 t229:=Tryz.underlying223
 a229:=Tryz.isAgg223
 z229:=Tryz.sizeOf223
 v229:=Tryz.zeroValue223}
open Go.Sort Go.RowKit in
theorem Tryz.slices_Sort_int(blk off cap:Nat)(zs:List Int)(w:World)(hH:Holds (Value.int .i64) w blk off zs.toArray)(hblk:blk<w.heap.size)(hsz:zs.length<4611686018427387904):
  Calls Tryz.prog 105 #[.slice (some ⟨blk,off,none⟩) zs.length cap] w fun e w'=>
   e= .returned (.tuple #[])∧∃n os,w'=grow (putRow (Value.int .i64) (Sort.ahead w n) blk off (zs.mergeSort fun x y=>decide (x≤y)).toArray) os:=Any.slices_Sort_int Tryz.lays189 blk off cap zs w hH hblk hsz
open Go.RowKit Go.Sort in
theorem Tryz.slices_Sort_int_none(p:Option Addr)(cap:Nat)(w:World):
  Calls Tryz.prog 105 #[.slice p 0 cap] w fun e w'=>e= .returned (.tuple #[])∧w'=w:=Any.slices_Sort_int_none Tryz.lays189 p cap w
end Go.Proofs
