/- Lemmas and contracts for the proof of PointAlone (several texts in one, printed by wip/tools/pack.py): RqG QcA QcE QcD QcG QbD QbE. -/
import Derived.Test.YtlmhkjdkcoiioaaGreatDoorAl8pE
import Derived.Test.YtlmhkjdkcoiioaaGreatDoorAl8pt
import Derived.Test.YtlmhkjdkcoiioaaGreatDoorAl8pA
import Derived.Test.YtlmhkjdkcoiioaaGreatDoorAl8pp
import Derived.Test.YtlmhkjdkcoiioaaGreatDoorAl8pD
set_option maxRecDepth 100000
set_option maxHeartbeats 16000000
set_option linter.unusedVariables false
set_option linter.unusedSimpArgs false
namespace Go.Proofs.YtlmhkjdkcoiioaaGreatDoor
open Go.RowKit
open Classical
def Pg(w:World)(b len:Nat)(l:List Sup)(d:List Drw)(e:Ending)(w':World):Prop:=
 ∃r v ok,e= .returned (.tuple #[v,.bool ok])/\VH b w' v r/\(ok=true->bi l r d)/\Mv b len w w'/\Fit r.on.length/\Fit r.level.length
theorem wP(l:List Sup)(d:List Drw)(ao a3:Option Addr)(cap c3:Nat)(w:World)(b len:Nat)(ht:Tp w b len)(h:gP b w (fun W=>ag 5 bG W ao l))(h3:gP b w (fun W=>ag 4 cX W a3 d))(hd:b7 l d)(hl:0<l.length):
  Calls Tryz.prog 25 #[.pointer (some ⟨b,0,none⟩),.slice ao l.length cap,.slice a3 d.length c3] w (Pg w b len l d):=by
 have TT:=aa ht;have HB:=aa ht.has;have H:=aa h;have H3:=aa h3;have HD:=aa hd;have hz:=cW hd.1;have KD:l.length<=16:=by have:=hz.1;simp only[jI,not_or] at this;omega
 have FL:Hid (Fit l.length):=aa (by unfold Fit;omega);have FD:Hid (Fit d.length):=aa (by have:=hd.2.1;unfold Fit;omega);have zv:Hid (∀k (h:k<l.length),1<=l[k].levels.length/\l[k].levels.length<=16):=aa fun k hk=>by have h1:=hz.1;simp only[jI,not_or] at h1;refine⟨?_,Classical.byContradiction fun q=>h1.2 ⟨k,hk,by omega⟩⟩;obtain⟨_,q⟩:=hz.2 k hk;exact q.1.2.2.1
 have SL:=aa (h.now ht);have SD:=aa (h3.now ht);clear ht h h3 hd hz;obtain⟨i0,hi,dt,da,cN⟩:=info_parts eS;obtain⟨j0,hj,kN,ka,lg⟩:=info_parts pe;go_enter Tryz.func25,Tryz.ntmps25;go_wp2_with fail;refine(Lh l d ao a3 cap c3 _ (aX SL.out ((gfl _).alloc _)) FL.out (bP SD.out ((gfl _).alloc _)) FD.out).mono ?_;rintro e W1 ⟨r,x,v,rfl,hv,hmx,hwx,hg,hf⟩;have FV:Hid (Fit r.on.length/\Fit r.level.length):=aa (by obtain⟨_,_,_,_,_,_,_,_,f1,_,f2⟩:=hv;exact⟨f1,f2⟩);have VV:=aa (QD (l:=l) (d:=d) (TT.out.gr ((gfl _).alloc _)) hg hv hf);have HMX:=aa hmx;have G1:Hid (Gr w W1):=aa (Gr.trans ((gfl _).alloc _) hg);have R6:Hid (Row W1 w.heap.size 29 [.slice none 0 0,.slice none 0 0]):=aa ((Row.new w #[.slice none 0 0,.slice none 0 0] _).gr hg);obtain⟨a1,a2,c1,c2,rfl,k1,k2,s1,s2⟩:=VV.out;have S1:=aa s1;have S2:=aa s2;have wx1:=hwx.1;have wx2:=hwx.2;clear hv hmx hwx hg hf s1 s2;have y0:=R6.out.cell 0 (by simp);have y1:=R6.out.cell 1 (by simp);simp only[List.getElem_cons_zero,List.getElem_cons_succ] at y0 y1;have y2:=R6.out.free 0;have y3:=R6.out.free 1;have yh:=R6.out.has;by_cases hx:x=0
 ·subst hx;have MR:=aa (HMX.out rfl);clear y0 y1 y2 y3 yh wx1 wx2 HMX;go_wp2_with fail;have jx:=aa (Mv.of_gr TT.out (G1.out.alloc (.cells #[.slice a1 r.on.length c1,.slice a2 r.level.length c2] 29)));have hb1:Hid (b<W1.heap.size):=aa (Nat.lt_of_lt_of_le HB.out G1.out.size);have V0:=aa (VV.out.gr hb1.out ((gfl _).alloc (.cells #[.slice a1 r.on.length c1,.slice a2 r.level.length c2] 29)));have nb8:Hid (W1.heap.size≠b):=aa (by have:=hb1.out;omega);have nb6:Hid (w.heap.size≠b):=aa (by have:=HB.out;omega);have sz1:=G1.out.size;have szR:w.heap.size<W1.heap.size:=R6.out.has;go_loopw [10] (fun i wr=>∃(k:Nat) (r:Rls) (a1 a2:Option Addr) (c1 c2:Nat),i= .int .i64 k/\k<=2*l.length/\bi l r d/\Mv b len w wr/\Row wr w.heap.size 29 [.slice none 0 0,.slice none 0 0]/\Row wr W1.heap.size 29 [.slice a1 r.on.length c1,.slice a2 r.level.length c2]/\VH b wr (.agg #[.slice a1 r.on.length c1,.slice a2 r.level.length c2]) r) (fun i _=>(intOf i).toNat);case atStart=>exact⟨2*l.length,r,a1,a2,c1,c2,by go_num,Nat.le_refl _,MR.out,jx.out,R6.out.alloc _,Row.new W1 _ _,V0.out⟩
  case round=>
   clear MR jx V0 S1 S2 VV k1 k2;obtain⟨k,r,a1,a2,c1,c2,rfl,sy,hmr,hm,hr6,hr8,hvh⟩:=hrel;have MR:=aa hmr;have HM:=aa hm;have Q6:=aa hr6;have Q8:=aa hr8;have VH':=aa hvh;have TW:=aa (hm.tp TT.out);have hbr:Hid (b<wr.heap.size):=aa TW.out.has;have r0:=hr8.cell 0 (by simp);have r1:=hr8.cell 1 (by simp);simp only[List.getElem_cons_zero,List.getElem_cons_succ] at r0 r1;have rh:=hr8.has;clear hmr hm hr6 hr8 hvh;by_cases h0:0<k
   ·obtain⟨k',rfl⟩:∃k',k=k'+1:=⟨k-1,by omega⟩;have g0:(0:Int)<((k'+1:Nat):Int):=(by omega);obtain⟨a1',a2',c1',c2',ee,kk1,kk2,s1,s2⟩:=VH'.out;simp only[Value.agg.injEq,Array.mk.injEq,List.cons.injEq,Value.slice.injEq,and_true,true_and] at ee;obtain⟨⟨rfl,rfl⟩,⟨rfl,rfl⟩⟩:=ee;have S1:=aa (s1.now TW.out);have S2:=aa (s2.now TW.out);have n1:=MR.out.2.1.2.1;have n2:=MR.out.2.1.2.2.1;have p1:0<r.on.length:=(by omega);have p2:0<r.level.length:=(by omega);have f1:r.on.length<=1000000:=(by omega);have f2:r.level.length<=1000000:=(by omega);have N1:=aa n1;have N2:=aa n2;clear n1 n2;obtain⟨b1,o1,rfl,_⟩:=S1.out.one 0 p1;obtain⟨b2,o2,rfl,_⟩:=S2.out.one 0 p2;clear s1 s2;have MRh:=MR;go_wp2_with fail;refine m6 (c:=Code.region 7 (fr 7 Tryz.f25) true) (by kernel_rfl) ?_;refine Wm r0 r1 S1.out S2.out p1 p2 f1 f2 ?_;intro ik eM fw fg im kz oO ns nS sj B1 B2 cO cL wx x0 x1 x2 hB11 hB1 hB2 hcO hcL tX;unfold N7A;have X0:=aa x0;have X1:=aa x1;have X2:=aa x2;have GX:=aa (Mv.of_gr TW.out tX);have TX:=aa (TW.out.gr tX);have Hl:Hid (b<wx.heap.size):=aa TX.out.has;have Fs:Hid (sj≠b/\B1≠b/\B2≠b):=aa (by have:=hbr.out;omega);have lpos:(1:Int)<=l.length:=(by omega);have l16i:(l.length:Int)<=16:=(by omega);clear x0 x1 x2 tX r0 r1 rh;go_wp2_with fail;refine(k7 wx b len _ TX.out (by omega) (by omega)).mono ?_;rintro e w2 ⟨x,rfl,⟨jm,ly⟩,rC⟩;obtain⟨kx,rfl⟩:∃kx:Nat,x=(kx:Int):=⟨x.toNat,by omega⟩;have M2:=aa rC;have T2:=aa (rC.tp TX.out);clear rC;go_wp2_with fail;refine(k7 w2 b len _ T2.out (by omega) (by omega)).mono ?_;rintro e w3 ⟨y,rfl,⟨ka,lg⟩,iz⟩;have M3:=aa (M2.out.trans Hl.out iz);clear iz M2 T2;have Y0:=aa (M3.out.row X0.out Fs.out.1);have Y1:=aa (M3.out.rowS X1.out Fs.out.2.1);have Y2:=aa (M3.out.rowS X2.out Fs.out.2.2);have MM3:=aa (GX.out.trans hbr.out M3.out);clear X0 X1 X2 GX TX Hl M3;have hkx:kx<l.length:=by omega
    go_upto_if 44 with fail
    go_cut [] (fun wx=>∃ons:List Bool,ons.length=r.on.length/\Row wx sj 29 [.slice (some ⟨B1,0,none⟩) r.on.length cO,.slice (some ⟨B2,0,none⟩) r.level.length cL]/\bd wx B1 4 (bg ons)/\bd wx B2 3 (an r.level)/\Mv b len wr wx);case first=>
     have z0:=Y0.out.cell 0 (by simp);have zh:=Y0.out.has;have z1:=Y1.out.bat kx (by have:=N1.out;omega);have zf:=Y1.out.free kx;have z1h:=Y1.out.has;have kb:(kx:Int)<r.on.length:=(by have:=N1.out;omega);have kp:(0:Int)<=kx:=(by omega);simp only[List.getElem_cons_zero] at z0;by_cases hy:y=0
     ·subst hy;go_wp2_with fail
      go_meet
      exact⟨r.on.set kx true,by simp,Y0.out.oth (Y1.out.apart Y0.out.s (by decide)),Y1.out.bset kx (by have:=N1.out;omega) true,Y2.out.oth (Y1.out.apart Y2.out (by decide)),MM3.out.setc hB1⟩
     have hyb:(y==0)=false:=(by simpa using hy);go_wp2_with fail
     go_meet
     exact⟨r.on,rfl,Y0.out,Y1.out,Y2.out,MM3.out⟩
    obtain⟨ons,eo,z0,z1,z2,Al⟩:=hcut;obtain⟨W3,rfl⟩:∃W3:World,W3=wc:=⟨_,rfl⟩;have EO:=aa eo;have Z0:=aa z0;have Z1:=aa z1;have Z2:=aa z2;have ZM:=aa Al;have ZT:=aa (Al.tp TW.out);have hb3:Hid (b<W3.heap.size):=aa ZT.out.has;have ZH:=aa (HM.out.trans HB.out ZM.out);clear eo z0 z1 z2 Al Y0 Y1 Y2 MM3;obtain⟨bs,os',rfl,_,⟨av,cv,q1,_,_,_⟩,_⟩:=(H.out.mv HB.out ZH.out (jC _ _)).now ZT.out kx hkx;have HQ:=aa (xy (H.out.mv HB.out ZH.out (jC _ _)) ZT.out hkx q1).2;have ll:=zv.out kx hkx;have l1:(1:Int)<=l[kx].levels.length:=(by omega);have l2:(l[kx].levels.length:Int)<=16:=(by omega);have kp:(0:Int)<=kx:=(by omega);have kl:(kx:Int)<l.length:=(by omega);have kb:(kx:Int)<r.level.length:=(by have:=N2.out;omega);have y0:=Z0.out.cell 1 (by simp);have yh:=Z0.out.has;have qh:=ae q1;have z0:=Z2.out.iat kx (by have:=N2.out;omega);have zf:=Z2.out.free kx;have zh:=Z2.out.has;simp only[List.getElem_cons_zero,List.getElem_cons_succ] at y0;go_wp2_with fail;go_cut [] (fun wx=>∃z:Int,0<=z/\z<=(l[kx].levels.length:Int)-1/\Row wx sj 29 [.slice (some ⟨B1,0,none⟩) r.on.length cO,.slice (some ⟨B2,0,none⟩) r.level.length cL]/\bd wx B1 4 (bg ons)/\bd wx B2 3 (an (r.level.set kx z))/\Mv b len wr wx);case first=>
     go_region_law (
      (go_simp;go_at_call 43;refine(k7 _ b len _ (ZT.out.gr grr) (by omega) (by omega)).mono ?_;rintro e w4 ⟨z,rfl,⟨da,cN⟩,qz⟩;have M4:=aa ((Mv.of_gr ZT.out grr).trans hb3.out qz);have A0:=aa (M4.out.row Z0.out Fs.out.1);have A2:=aa (M4.out.rowS Z2.out Fs.out.2.2);have u0:=A0.out.cell 1 (by simp);have uh:=A0.out.has;have v0:=A2.out.iat kx (by have:=N2.out;omega);have vf:=A2.out.free kx;have vh:=A2.out.has;clear qz;simp only[List.getElem_cons_zero,List.getElem_cons_succ] at u0))
     all_goals (go_wp2_with fail;go_meet)
     all_goals
      exact⟨z,da,cN,A0.out.oth (A2.out.apart A0.out.s (by decide)),(M4.out.rowS Z1.out Fs.out.2.1).oth (A2.out.apart (M4.out.rowS Z1.out Fs.out.2.1) (by decide)),A2.out.iset kx (by have:=N2.out;omega) z,(ZM.out.trans hbr.out M4.out).setc hB2⟩
    obtain⟨z,da,cN,z0',z1',z2',Al⟩:=hcut;obtain⟨W4,rfl⟩:∃W4:World,W4=wc:=⟨_,rfl⟩;clear q1 HQ ll l1 l2 kp kl kb y0 yh qh z0 zf zh Z0 Z1 Z2 ZM ZT hb3 ZH;obtain⟨xr,hxr⟩:∃xr:Rls,Hid (xr=⟨ons,r.level.set kx z⟩):=⟨_,aa rfl⟩;have e1:ons=xr.on:=(by rw[hxr.out]);have e2:r.level.set kx z=xr.level:=(by rw[hxr.out]);have e3:r.on.length=xr.on.length:=(by rw[hxr.out];exact EO.out.symm);have e4:r.level.length=xr.level.length:=(by rw[hxr.out];simp);rw[e1] at z1';rw[e2] at z2';rw[e3,e4] at z0';have E3:=aa e3;have E4:=aa e4;have Z0:=aa z0';have Z1:=aa z1';have Z2:=aa z2';have ZM:=aa Al;have ZT:=aa (Al.tp TW.out);have ZH:=aa (HM.out.trans HB.out Al);have wid:Hid (∀k (hk:k<xr.level.length),aK xr.level[k]):=aa fun k hk=>by
     have w1:=Gs (lz MR.out.2.1) k (by rw[hxr.out] at hk;simpa using hk);have w2:xr.level[k]=(r.level.set kx z)[k]'(by rw[e2];exact hk):=(by simp only[e2]);rw[w2,List.getElem_set];have:=zv.out kx hkx;split
     ·unfold aK;omega
     exact w1
    have y0:=Z0.out.cell 0 (by simp);have y1:=Z0.out.cell 1 (by simp);have yh:=Z0.out.has;simp only[List.getElem_cons_zero,List.getElem_cons_succ] at y0 y1;clear e1 e2 e3 e4 z0' z1' z2' Al;go_wp2_with fail;have n1:=N1.out;have n2:=N2.out;have FX1:Hid (Fit xr.on.length):=aa (by have:=E3.out;unfold Fit;omega);have FX2:Hid (Fit xr.level.length):=aa (by have:=E4.out;unfold Fit;omega);clear n1 n2;refine(uU l xr d _ _ _ a3 cap cO cL c3 _ ((H.out.mv HB.out ZH.out (jC _ _)).now ZT.out) FL.out Z1.out.slB (Z2.out.slI wid.out) ((H3.out.mv HB.out ZH.out (QW _ _)).now ZT.out) FX1.out FX2.out FD.out).mono ?_;have VHx:Hid (VH b W4 (.agg #[.slice (some ⟨B1,0,none⟩) xr.on.length cO,.slice (some ⟨B2,0,none⟩) xr.level.length cL]) xr):=aa
     ⟨_,_,_,_,rfl,by rw[<-E3.out];exact hcO,by rw[<-E4.out];exact hcL,fun p=>(Z1.out.oth (Ne.symm Fs.out.2.1)).slB,fun p=>(Z2.out.oth (Ne.symm Fs.out.2.2)).slI wid.out⟩
    by_cases Ft:bi l xr d
    ·rw[dtx Ft];have HME:=aa Ft;clear Ft;rintro e w' ⟨rfl,jl⟩;have G5:=aa jl;have U0:=aa (Z0.out.gr jl);have U8:=aa ((ZM.out.row Q8.out nb8.out).gr jl);have U6:=aa ((ZM.out.row Q6.out nb6.out).gr jl);clear jl y0 y1 yh;have y0:=U0.out.cell 0 (by simp);have y1:=U0.out.cell 1 (by simp);have yh:=U0.out.has;have v0:=U8.out.cell 0 (by simp);have v1:=U8.out.cell 1 (by simp);have vh:=U8.out.has;have v2:=U8.out.free 0;have v3:=U8.out.free 1;simp only[List.getElem_cons_zero,List.getElem_cons_succ] at y0 y1 v0 v1;go_wp2_with fail;go_roundw;case rel=>
      refine⟨k',xr,some ⟨B1,0,none⟩,some ⟨B2,0,none⟩,cO,cL,by go_num,by omega,HME.out,?_,?_,?_,?_⟩
      ·exact((ZH.out.gr G5.out).setc sz1).setc sz1
      ·exact(U6.out.oth (by omega)).oth (by omega)
      ·exact(U8.out.set 0 _).set 1 _
      refine VH.box (VH.box (VHx.out.gr ZT.out.has G5.out) v0 nb8.out) (s1:=some ⟨b2,o2,none⟩) (n1:=r.level.length) (k1:=c2) ?_ nb8.out;rw[World.cell?_setCell_other]
      ·exact v1
      simp
     case measure=>simp[intOf]
    rw[dfx Ft];clear Ft;rintro e w' ⟨rfl,jl⟩;have G5:=aa jl;clear jl y0 y1 yh;go_wp2_with fail;go_roundw;case rel=>exact⟨k',r,some ⟨b1,o1,none⟩,some ⟨b2,o2,none⟩,c1,c2,by go_num,by omega,MR.out,ZH.out.gr G5.out,(ZM.out.row Q6.out nb6.out).gr G5.out,(ZM.out.row Q8.out nb8.out).gr G5.out,(VH'.out.mv hbr.out ZM.out).gr ZT.out.has G5.out⟩
    case measure=>simp[intOf]
   have gH:k=0:=by omega
   subst gH;have u0:=Q6.out.cell 0 (by simp);have u1:=Q6.out.cell 1 (by simp);have uh:=Q6.out.has;have u2:=Q6.out.free 0;have u3:=Q6.out.free 1;simp only[List.getElem_cons_zero,List.getElem_cons_succ] at u0 u1;go_wp2_with fail;refine bodyPost_ret (v:= .tuple #[.agg #[.slice a1 r.on.length c1,.slice a2 r.level.length c2],.bool true]) ?_ rfl ?_
   ·simp[results,Tryz.results25,go_sem,u0,u1,uh]
   have bS:w.heap.size≠b:=nb6.out;refine⟨r,_,true,rfl,?_,(fun _=>MR.out),(HM.out.setc (Nat.le_refl _)).setc (Nat.le_refl _),by have:=MR.out.2.1.2.1;have:=MR.out.2.1.2.2.1;unfold Fit;omega⟩;refine VH.box (VH.box VH'.out u0 bS) (s1:=none) (n1:=0) (k1:=0) ?_ bS;rw[World.cell?_setCell_other]
   ·exact u1
   simp
 have hxb:(x !=0)=true:=by simpa using hx
 clear hx;go_wp2_with fail;refine bodyPost_ret (v:= .tuple #[.agg #[.slice a1 r.on.length c1,.slice a2 r.level.length c2],.bool false]) ?_ rfl ?_
 ·simp[results,Tryz.results25,go_sem,y0,y1,yh]
 have hb:b<W1.heap.size:=Nat.lt_of_lt_of_le HB.out G1.out.size;have bS:w.heap.size≠b:=by have:=HB.out;omega
 refine⟨r,_,false,rfl,?_,(fun q=>Bool.noConfusion q),(((Mv.of_gr TT.out G1.out).setc (Nat.le_refl _)).setc (Nat.le_refl _)).alloc _,FV.out⟩;refine VH.gr (VH.box (VH.box VV.out y0 bS) (s1:=none) (n1:=0) (k1:=0) ?_ bS) (by rw[bQ,bQ];exact hb) ((gfl _).alloc _);rw[World.cell?_setCell_other]
 ·exact y1
 simp
structure STS where
 x:Scl
 B:Nat
def tb(t:STS):List Value:= [.int .i64 t.x.clock,.int .i64 t.x.supply,.slice (some ⟨t.B,0,none⟩) 2 2]
theorem U5(t:STS):(tb t).length=3:=rfl
def scs(ts:List STS):List Scl:=ts.map (·.x)
def lU(base:Nat)(w:World)(t:STS):Prop:=
 ∃r0 v0 r1 v1:Int,t.x.points= [⟨r0,v0⟩,⟨r1,v1⟩]/\bd w t.B 86 [.int .i64 r0,.int .i64 v0,.int .i64 r1,.int .i64 v1]/\base<=t.B/\(aK r0/\aK v0/\aK r1/\aK v1)/\aK t.x.clock/\aK t.x.supply
def sr(base:Nat)(w:World)(ts:List STS):Prop:=∀t∈ts,lU base w t
theorem lU.mv{b len base:Nat}{w w1:World}{t:STS}(h:lU base w t)(m:Mv b len w w1)(hb:b<base):lU base w1 t:=by obtain⟨r0,v0,r1,v1,e,h1,h2,h3⟩:=h;exact⟨r0,v0,r1,v1,e,m.rowS h1 (by omega),h2,h3⟩
theorem lU.gr{base:Nat}{w w1:World}{t:STS}(h:lU base w t)(g:Gr w w1):lU base w1 t:=by obtain⟨r0,v0,r1,v1,e,h1,h2,h3⟩:=h;exact⟨r0,v0,r1,v1,e,h1.gr g,h2,h3⟩
theorem lU.grown{base base2 n:Nat}{w w1:World}{t:STS}{v:Value}{xs:List Value}(h:lU base w t)(o:w.ownsRow base2 53 3 v n xs)(hg:w.grownBy w1 v.ownBlock):lU base w1 t:=by obtain⟨r0,v0,r1,v1,e,h1,h2,h3⟩:=h;exact⟨r0,v0,r1,v1,e,h1.grown hg (aJ o h1 (by decide)),h2,h3⟩
theorem lU.setT{base B o T:Nat}{w:World}{t:STS}{us:List Value}{v:Value}(h:lU base w t)(hr:Row w B T us)(hT:T≠86):lU base (w.setCell ⟨B,o,none⟩ v) t:=by obtain⟨r0,v0,r1,v1,e,h1,h2,h3⟩:=h;exact⟨r0,v0,r1,v1,e,h1.oth (hr.s.apart h1 hT),h2,h3⟩
theorem sr.snoc{base:Nat}{w:World}{ts:List STS}{t:STS}(h:sr base w ts)(k:lU base w t):sr base w (ts++ [t]):=by
 intro x hx;rcases List.mem_append.1 hx with q|q
 ·exact h x q
 rw[List.mem_singleton.1 q];exact k
theorem VJ{base:Nat}{w:World}{t:STS}(h:lU base w t):ag 2 qT w (some ⟨t.B,0,none⟩) t.x.points:=by
 obtain⟨r0,v0,r1,v1,e,⟨more,h1⟩,h2,⟨w0,w1,w2,w3⟩,h3⟩:=h;rw[e];have c0:=h1.cell 0 (by simp);have c1:=h1.cell 1 (by simp);have c2:=h1.cell 2 (by simp);have c3:=h1.cell 3 (by simp);simp only[List.cons_append,List.getElem_cons_zero,List.getElem_cons_succ] at c0 c1 c2 c3;intro k hk;refine⟨t.B,0,rfl,?_⟩;have:k=0∨k=1:=by simp at hk;omega
 rcases this with rfl|rfl
 ·exact⟨⟨c0,w0⟩,c1,w1⟩
 exact⟨⟨c2,w2⟩,c3,w3⟩
theorem JL{base base2:Nat}{w:World}{v:Value}{ts:List STS}(h:w.ownsRow base 53 3 v ts.length (ts.flatMap tb))(hr:sr base2 w ts):∃a c,v= .slice a (scs ts).length c/\ag 3 lN w a (scs ts):=by
 have hl:(scs ts).length=ts.length:=by simp[scs]
 rcases Nat.eq_zero_or_pos ts.length with e|e
 ·have:ts= []:=List.eq_nil_of_length_eq_zero e;subst this;obtain⟨a,c,rfl⟩:=be h;exact⟨a,c,rfl,ag.nil _ _ _ _⟩
 obtain⟨g,cap,rfl,hc,hb,lG⟩:=fM h e;refine⟨_,cap,by rw[hl],fun k hk=>⟨g,0,rfl,?_⟩⟩;have jP:k<ts.length:=by omega
 have hs:(scs ts)[k]=ts[k].x:=by simp[scs]
 rw[hs];have key:∀j,(hj:j<3)->w.cell? ⟨g,0+k*3+j,none⟩=(tb ts[k])[j]?:=fun j hj=>by rw[<-nJ tb 3 U5 ts k j jP hj,Nat.zero_add];exact lG _ (by omega)
 have hp:=hr _ (List.getElem_mem jP);have hq:=VJ hp;obtain⟨r0,v0,r1,v1,e,_,_,_,w1,w2⟩:=hp;have e2:ts[k].x.points.length=2:=by rw[e];rfl
 refine⟨⟨key 0 (by omega),w1⟩,⟨key 1 (by omega),w2⟩,some ⟨ts[k].B,0,none⟩,2,?_,by omega,by unfold Fit;omega,hq⟩;rw[e2];exact key 2 (by omega)
structure xj(w:World)(l:List Clk)(p:List Sup)(f t:List Int)(a b:Rls)(ms:List Lmt)(d:List Drw)(c:List Scl)(al ap af at2 a1 a2 a3 a4 am ad ac:Option Addr)(k1 k2 k3 k4:Nat):Prop where
 env:AS w l p ms d c al ap am ad ac
 sf:ag 1 RI w af f
 st:ag 1 RI w at2 t
 ra:RlA w a1 a2 k1 k2 a
 rb:RlA w a3 a4 k3 k4 b
theorem xj.gr{w w':World}{l:List Clk}{p:List Sup}{f t:List Int}{a b:Rls}{ms:List Lmt}{d:List Drw}{c:List Scl}{al ap af at2 a1 a2 a3 a4 am ad ac:Option Addr}{k1 k2 k3 k4:Nat}(h:xj w l p f t a b ms d c al ap af at2 a1 a2 a3 a4 am ad ac k1 k2 k3 k4)(hg:Gr w w'):xj w' l p f t a b ms d c al ap af at2 a1 a2 a3 a4 am ad ac k1 k2 k3 k4:=
 ⟨h.env.gr hg,h.sf.giI hg,h.st.giI hg,h.ra.gr hg,h.rb.gr hg⟩
structure Vg(l:List Clk)(p:List Sup)(f t:List Int)(ms:List Lmt)(d:List Drw):Prop where
 cz:bA l=0
 pz:chk p=0
 l1:1<=l.length
 p1:1<=p.length
 sf:aI l f
 st:aI l t
 dz:b7 p d
 mz:fC l ms
def Uh(b len:Nat)(w:World)(e:Ending)(w':World):Prop:=
 ∃(l:List Clk) (p:List Sup) (f t:List Int) (A B:Rls) (ms:List Lmt) (d:List Drw) (c:List Scl) (al ap af at2 a1 a2 a3 a4 am ad ac:Option Addr) (cl cp cf ct k1 k2 k3 k4 cm cd cc:Nat),
  e= .returned (.agg #[.slice al l.length cl,.slice ap p.length cp,.slice af f.length cf,.slice at2 t.length ct,.slice a1 A.on.length k1,.slice a2 A.level.length k2,.slice a3 B.on.length k3,.slice a4 B.level.length k4,.slice am ms.length cm,.slice ad d.length cd,.slice ac c.length cc])/\
  gP b w' (fun W=>xj W l p f t A B ms d c al ap af at2 a1 a2 a3 a4 am ad ac k1 k2 k3 k4)/\Vg l p f t ms d/\Mv b len w w'
def Oy(w:World)(b len:Nat)(l:List Sup)(e:Ending)(w':World):Prop:=
 ∃ds v,e= .returned v/\b7 l ds/\w'.ownsRow w.heap.size 128 4 v ds.length (ds.flatMap eL)/\Mv b len w w'
theorem LG(l:List Sup)(ao:Option Addr)(cap:Nat)(w:World)(b len n:Nat)(ht:Tp w b len)(h:gP b w (fun W=>ag 5 bG W ao l))(hc:chk l=0)(hl:0<l.length)(hn:n<=30):
  Calls Tryz.prog 48 #[.pointer (some ⟨b,0,none⟩),.slice ao l.length cap,.int .i64 n] w (Oy w b len l):=by
 have TT:=aa ht;have HB:=aa ht.has;have H:=aa h;have HC:=aa hc;have hz:=cW hc;have OK:=aa hz.2;have KD:l.length<=16:=by have:=hz.1;simp only[jI,not_or] at this;omega
 have zv:Hid (∀k (h:k<l.length),1<=l[k].levels.length/\l[k].levels.length<=16):=aa fun k hk=>by have h1:=hz.1;simp only[jI,not_or] at h1;refine⟨?_,Classical.byContradiction fun q=>h1.2 ⟨k,hk,by omega⟩⟩;obtain⟨_,q⟩:=hz.2 k hk;exact q.1.2.2.1
 clear ht h hc hz;obtain⟨i0,hi,dt,da,cN⟩:=info_parts Br;go_enter Tryz.func48,Tryz.ntmps48;go_wp2_with fail;refine(k7 _ b len _ TT.out (by omega) (by omega)).mono ?_;rintro e w1 ⟨x,rfl,⟨jm,ly⟩,hm⟩;obtain⟨m,rfl⟩:=Int.eq_ofNat_of_zero_le (show 0<=x by omega);have M1:=aa hm;clear hm;go_wp2_with fail;go_loopw [7,8] (fun s7 s8 wr=>∃(ds:List Drw) (m:Nat),s8= .int .i64 m/\Mv b len w wr/\wr.ownsRow w.heap.size 128 4 s7 ds.length (ds.flatMap eL)/\(∀x∈ds,fq l x)/\ds.length+m<=32) (fun _ s8 _=>(intOf s8).toNat);case atStart=>exact⟨[],m,rfl,M1.out,World.ownsRow_nil _ _ _ _,fun t h=>absurd h List.not_mem_nil,by simp;omega⟩
 case round=>
  clear M1;obtain⟨ds,m,rfl,hm,ho,hok,mI⟩:=hrel;have HM:=aa hm;have HO:=aa ho;have DK:=aa hok;obtain⟨a7,c7,rfl⟩:=be ho;clear hm ho hok;by_cases h0:0<m
  ·obtain⟨m',rfl⟩:∃m',m=m'+1:=⟨m-1,by omega⟩;have g0:(0:Int)<((m'+1:Nat):Int):=by omega
   go_wp2_with fail;refine(k7 _ b len _ (HM.out.tp TT.out) (by omega) (by omega)).mono ?_;rintro e w2 ⟨k0,rfl,⟨ky,sy⟩,rC⟩;obtain⟨k,rfl⟩:=Int.eq_ofNat_of_zero_le ky;have gI:k<l.length:=by omega
   have M2:=aa (HM.out.trans HB.out rC);have MW2:=aa rC;have T2:=aa (M2.out.tp TT.out);have H2:=aa (H.out.mv HB.out M2.out (jC _ _));clear rC;obtain⟨bs,os,rfl,_,⟨av,cv,q1,_,_,_⟩,_⟩:=H2.out.now T2.out k gI;have HL:=aa (xy H2.out T2.out gI q1);have ll:=zv.out k gI;have x0:=ae q1;have gk0:(0:Int)<=k:=by omega
   have gk1:(k:Int)<l.length:=by omega
   have px:Hid (b<w2.heap.size):=aa T2.out.has;go_wp2_with fail;go_cut [10] (fun fQ wx=>∃v:Int,fQ= .int .i64 v/\1<=v/\v<=5000/\Mv b len w2 wx);case first=>
    go_region_law (
     (go_simp;go_at_call 43;refine(k7 _ b len _ (T2.out.gr grr) (by omega) (by omega)).mono ?_;rintro e w3 ⟨x,rfl,⟨jm,ly⟩,hm⟩;obtain⟨xn,rfl⟩:=Int.eq_ofNat_of_zero_le jm;have M3:=aa ((Mv.of_gr T2.out grr).trans px.out hm);have T3:=aa (M3.out.tp T2.out);have jp:xn<l[k].levels.length:=(by omega);have q1':=(HL.out.2.mv px.out M3.out (QP _ _)).now T3.out;have x0':=ae q1';obtain⟨bv,ov,rfl,y1,_⟩:=((HL.out.1.mv px.out M3.out (yj _ _)).now T3.out).one xn jp;have xv:=ae y1;have gv0:(0:Int)<=xn:=(by omega);have gv1:(xn:Int)<l[k].levels.length:=(by omega);have lvb:=aa (KR OK.out k gI xn jp);clear hm))
    all_goals (go_wp2_with fail;go_meet)
    all_goals exact⟨_,rfl,lvb.out.1,lvb.out.2,M3.out⟩
   obtain⟨v,rfl,hv1,hv2,iz⟩:=hcut;obtain⟨w3,rfl⟩:∃w3:World,w3=wc:=⟨_,rfl⟩;have M3:=aa (M2.out.trans HB.out iz);have MW3:=aa (MW2.out.trans (by have:=HM.out.size;have:=HB.out;omega) iz);clear iz q1 x0 HL;go_wp2_with fail;refine(dG w3 b len (M3.out.tp TT.out) _ rfl _ 4 [0,10,100,1000] (gv 0 1000) rfl rfl (by omega) (by omega) (by simp[gv])).mono ?_;rintro e w4 ⟨p1,rfl,⟨Io,hp2⟩,qz⟩;have M4:=aa (M3.out.trans HB.out qz);have MW4:=aa (MW3.out.trans (by have:=HM.out.size;have:=HB.out;omega) qz);clear qz M3 MW3;rcases Int.lt_or_le p1 v with hA|hA
   ·have mxA:max 0 (v-p1)=v-p1:=(by omega);go_wp2_with fail;refine(dG w4 b len (M4.out.tp TT.out) _ rfl _ 4 [0,50,500,2000] (gv 0 2000) rfl rfl (by omega) (by omega) (by simp[gv])).mono ?_;rintro e w5 ⟨p2,rfl,⟨hp3,hp4⟩,jn⟩;have M5:=aa (M4.out.trans HB.out jn);have MW5:=aa (MW4.out.trans (by have:=HM.out.size;have:=HB.out;omega) jn);clear jn M4 MW4;rcases Int.lt_or_le (v+p2) 5000 with hB|hB
    ·have mnB:min 5000 (v+p2)=v+p2:=(by omega);go_wp2_with fail;refine(dG w5 b len (M5.out.tp TT.out) _ rfl _ 4 [0,10,100,300] (gv 0 300) rfl rfl (by omega) (by omega) (by simp[gv])).mono ?_;rintro e w6 ⟨p3,rfl,⟨hp5,hp6⟩,fS⟩;have M6:=aa (M5.out.trans HB.out fS);have MW6:=aa (MW5.out.trans (by have:=HM.out.size;have:=HB.out;omega) fS);clear fS M5 MW5;have OX:=aa (MW6.out.owns HO.out HB.out);have DO:Hid (fq l ⟨k,v-p1,v+p2,p3⟩):=aa (by unfold fq;simp only;omega);go_wp2_with (at_builtin;refine wpList_append_own _ rfl _ _ 31 rfl w.heap.size 128 i0 (.agg #[.int .i64 0,.int .i64 0,.int .i64 0,.int .i64 0]) 4 32 Tryz.underlying31 hi dt da cN rfl (by decide) (.slice a7 ds.length c7) ds.length (ds.flatMap eL) rfl ((OX.out.alloc _).alloc _) ⟨w6.heap.size+1,0,none⟩ 1 1 (eL ⟨k,v-p1,v+p2,p3⟩) rfl rfl (by have:=wX (w6.alloc (.cells #[.int .i64 k,.int .i64 (v-p1),.int .i64 (v+p2),.int .i64 p3] 128)) (.int .i64 k) (.int .i64 (v-p1)) (.int .i64 (v+p2)) (.int .i64 p3) 128;simpa [eL] using this) (yp _) (by unfold maxLen;omega) (by omega) (by have:=M6.out.size;simp;omega) ?_;intro v' wz bI aE eJ;have HOz:=aa bI;have HGz:=aa aE;clear bI aE eJ);go_roundw;case rel=>
      refine⟨ds++ [⟨k,v-p1,v+p2,p3⟩],m',by go_num,?_,?_,?_,by simp;omega⟩
      ·exact((M6.out.alloc _).alloc _).grown HGz.out (fun j e=>(OX.out.lt j e).1)
      ·have:=HOz.out;rw[List.length_append,List.flatMap_append];simpa using this
      intro t ht;rcases List.mem_append.1 ht with q|q
      ·exact DK.out t q
      rw[List.mem_singleton.1 q];exact DO.out
     case measure=>simp[intOf]
    have mnB:min 5000 (v+p2)=5000:=(by omega);go_wp2_with fail;refine(dG w5 b len (M5.out.tp TT.out) _ rfl _ 4 [0,10,100,300] (gv 0 300) rfl rfl (by omega) (by omega) (by simp[gv])).mono ?_;rintro e w6 ⟨p3,rfl,⟨hp5,hp6⟩,fS⟩;have M6:=aa (M5.out.trans HB.out fS);have MW6:=aa (MW5.out.trans (by have:=HM.out.size;have:=HB.out;omega) fS);clear fS M5 MW5;have OX:=aa (MW6.out.owns HO.out HB.out);have DO:Hid (fq l ⟨k,v-p1,5000,p3⟩):=aa (by unfold fq;simp only;omega);go_wp2_with (at_builtin;refine wpList_append_own _ rfl _ _ 31 rfl w.heap.size 128 i0 (.agg #[.int .i64 0,.int .i64 0,.int .i64 0,.int .i64 0]) 4 32 Tryz.underlying31 hi dt da cN rfl (by decide) (.slice a7 ds.length c7) ds.length (ds.flatMap eL) rfl ((OX.out.alloc _).alloc _) ⟨w6.heap.size+1,0,none⟩ 1 1 (eL ⟨k,v-p1,5000,p3⟩) rfl rfl (by have:=wX (w6.alloc (.cells #[.int .i64 k,.int .i64 (v-p1),.int .i64 (5000),.int .i64 p3] 128)) (.int .i64 k) (.int .i64 (v-p1)) (.int .i64 (5000)) (.int .i64 p3) 128;simpa [eL] using this) (yp _) (by unfold maxLen;omega) (by omega) (by have:=M6.out.size;simp;omega) ?_;intro v' wz bI aE eJ;have HOz:=aa bI;have HGz:=aa aE;clear bI aE eJ);go_roundw;case rel=>
     refine⟨ds++ [⟨k,v-p1,5000,p3⟩],m',by go_num,?_,?_,?_,by simp;omega⟩
     ·exact((M6.out.alloc _).alloc _).grown HGz.out (fun j e=>(OX.out.lt j e).1)
     ·have:=HOz.out;rw[List.length_append,List.flatMap_append];simpa using this
     intro t ht;rcases List.mem_append.1 ht with q|q
     ·exact DK.out t q
     rw[List.mem_singleton.1 q];exact DO.out
    case measure=>simp[intOf]
   have mxA:max 0 (v-p1)=0:=(by omega);go_wp2_with fail;refine(dG w4 b len (M4.out.tp TT.out) _ rfl _ 4 [0,50,500,2000] (gv 0 2000) rfl rfl (by omega) (by omega) (by simp[gv])).mono ?_;rintro e w5 ⟨p2,rfl,⟨hp3,hp4⟩,jn⟩;have M5:=aa (M4.out.trans HB.out jn);have MW5:=aa (MW4.out.trans (by have:=HM.out.size;have:=HB.out;omega) jn);clear jn M4 MW4;rcases Int.lt_or_le (v+p2) 5000 with hB|hB
   ·have mnB:min 5000 (v+p2)=v+p2:=(by omega);go_wp2_with fail;refine(dG w5 b len (M5.out.tp TT.out) _ rfl _ 4 [0,10,100,300] (gv 0 300) rfl rfl (by omega) (by omega) (by simp[gv])).mono ?_;rintro e w6 ⟨p3,rfl,⟨hp5,hp6⟩,fS⟩;have M6:=aa (M5.out.trans HB.out fS);have MW6:=aa (MW5.out.trans (by have:=HM.out.size;have:=HB.out;omega) fS);clear fS M5 MW5;have OX:=aa (MW6.out.owns HO.out HB.out);have DO:Hid (fq l ⟨k,0,v+p2,p3⟩):=aa (by unfold fq;simp only;omega);go_wp2_with (at_builtin;refine wpList_append_own _ rfl _ _ 31 rfl w.heap.size 128 i0 (.agg #[.int .i64 0,.int .i64 0,.int .i64 0,.int .i64 0]) 4 32 Tryz.underlying31 hi dt da cN rfl (by decide) (.slice a7 ds.length c7) ds.length (ds.flatMap eL) rfl ((OX.out.alloc _).alloc _) ⟨w6.heap.size+1,0,none⟩ 1 1 (eL ⟨k,0,v+p2,p3⟩) rfl rfl (by have:=wX (w6.alloc (.cells #[.int .i64 k,.int .i64 (0),.int .i64 (v+p2),.int .i64 p3] 128)) (.int .i64 k) (.int .i64 (0)) (.int .i64 (v+p2)) (.int .i64 p3) 128;simpa [eL] using this) (yp _) (by unfold maxLen;omega) (by omega) (by have:=M6.out.size;simp;omega) ?_;intro v' wz bI aE eJ;have HOz:=aa bI;have HGz:=aa aE;clear bI aE eJ);go_roundw;case rel=>
     refine⟨ds++ [⟨k,0,v+p2,p3⟩],m',by go_num,?_,?_,?_,by simp;omega⟩
     ·exact((M6.out.alloc _).alloc _).grown HGz.out (fun j e=>(OX.out.lt j e).1)
     ·have:=HOz.out;rw[List.length_append,List.flatMap_append];simpa using this
     intro t ht;rcases List.mem_append.1 ht with q|q
     ·exact DK.out t q
     rw[List.mem_singleton.1 q];exact DO.out
    case measure=>simp[intOf]
   have mnB:min 5000 (v+p2)=5000:=(by omega);exact absurd hB (by omega)
  have jx:m=0:=by omega
  subst jx;have hwd:∀x∈ds,aK x.supply/\aK x.low/\aK x.high/\aK x.load:=fun x hx=>by have:=DK.out x hx;unfold fq at this;unfold aK;omega
  have WD:=aa hwd;clear hwd;go_wp2_with fail;go_ret;exact⟨ds,.slice a7 ds.length c7,rfl,⟨HC.out,by omega,fun k hk=>DK.out _ (List.getElem_mem hk)⟩,HO.out,HM.out⟩
theorem LR{w:World}{a c:Addr}{u v:Value}(h:a.block≠c.block):(w.setCell a u).setCell c v=(w.setCell c v).setCell a u:=by unfold World.setCell;congr 1;apply Array.ext_getElem?;intro i;simp only[Array.getElem?_modify];by_cases h1:c.block=i<;>by_cases h2:a.block=i<;>simp_all
theorem Dd{b B o:Nat}{w:World}{v:Value}{Q:World->Prop}(hB:B≠b)(h:gP b w Q)(hq:∀W,(∃p,W=w.setCell ⟨b,1,none⟩ (.int .i64 p))->Q W->Q (W.setCell ⟨B,o,none⟩ v)):gP b (w.setCell ⟨B,o,none⟩ v) Q:=fun p=>by rw[LR hB];exact hq _ ⟨p,rfl⟩ (h p)
theorem Bf{w:World}{N T o:Nat}{vs:List Value}{v:Value}{ao:Option Addr}{ps:List Int}(hs:ag 1 RI w ao ps)(h:Row w N T vs)(hv:∀u∈vs,∀x,u≠ .int .i64 x):ag 1 RI (w.setCell ⟨N,o,none⟩ v) ao ps:=fun k hk=>by
 obtain⟨b,p,e,c0,w0⟩:=hs k hk;refine⟨b,p,e,?_,w0⟩;rw[World.cell?_setCell_other]
 ·exact c0
 intro q;have:N=b:=(by simpa using q:N=b/\o=p+k).1;subst this;unfold Row at h;simp only[World.cell?,h] at c0;have c2:vs[p+k]?=some (.int .i64 ps[k]):=by simpa using c0
 exact hv _ (List.mem_of_getElem? c2) _ rfl
structure RlH(b:Nat)(w:World)(a1 a2:Option Addr)(k1 k2:Nat)(r:Rls):Prop where
 on:gP b w (fun W=>ag 1 RB W a1 r.on)
 lv:gP b w (fun W=>ag 1 RI W a2 r.level)
 k1:r.on.length<=k1
 k2:r.level.length<=k2
 f1:Fit r.on.length
 f2:Fit r.level.length
def qD(cs:List Value):Prop:=(∀u∈cs,∀x,u≠ .int .i64 x)/\∀u∈cs,∀x,u≠ .bool x
section
variable {b n B3 BC k:Nat} {w3 W W':World} {cs:List Value} {xs ys:List Int} {vf vt vd v1 v2 vc:Value} {ds:List Drw} {R1 R2:List Rt} {sts:List STS} {a1 a2:Option Addr} {k1 k2:Nat} {r:Rls}
theorem RlH.mvd(h:RlH b W a1 a2 k1 k2 r)(hb:b<W.heap.size)(m:Mv b n W W'):RlH b W' a1 a2 k1 k2 r:=⟨h.on.mv hb m (Fn _ _),h.lv.mv hb m (yj _ _),h.k1,h.k2,h.f1,h.f2⟩
theorem RlH.gr(h:RlH b W a1 a2 k1 k2 r)(hb:b<W.heap.size)(g:Gr W W'):RlH b W' a1 a2 k1 k2 r:=⟨h.on.gr hb g (Fn _ _),h.lv.gr hb g (yj _ _),h.k1,h.k2,h.f1,h.f2⟩
theorem RlH.set(h:RlH b W a1 a2 k1 k2 r){B T o:Nat}{v:Value}(hB:B≠b)(hr:Row W B T cs)(hz:qD cs):RlH b (W.setCell ⟨B,o,none⟩ v) a1 a2 k1 k2 r:=
 ⟨Dd hB h.on fun W1 ⟨p,e⟩ q=>uC (vs:=cs) (T:=T) q (by subst e;exact hr.oth (Ne.symm hB)) hz.2,Dd hB h.lv fun W1 ⟨p,e⟩ q=>Bf (vs:=cs) (T:=T) q (by subst e;exact hr.oth (Ne.symm hB)) hz.1,h.k1,h.k2,h.f1,h.f2⟩
structure MI(b n B3 BC k:Nat)(w3:World)(cs:List Value)(xs ys:List Int)(vf vt vd:Value)(ds:List Drw)(v1 v2:Value)(R1 R2:List Rt)(vc:Value)(sts:List STS)(W:World):Prop where
 mv:Mv b n w3 W
 row:Row W B3 34 cs
 nz:qD cs
 ox:W.ownsRow (B3+1) 3 1 vf k (an xs)
 oy:W.ownsRow (B3+1) 3 1 vt k (an ys)
 od:W.ownsRow (B3+1) 128 4 vd ds.length (ds.flatMap eL)
 r1:W.ownsRow (B3+1) 57 2 v1 k (gu (R1.map prR))
 r2:W.ownsRow (B3+1) 57 2 v2 k (gu (R2.map prR))
 oc:W.ownsRow (B3+1) 53 3 vc sts.length (sts.flatMap tb)
 pt:sr (B3+1) W sts
theorem MI.mvd(h:MI b n B3 BC k w3 cs xs ys vf vt vd ds v1 v2 R1 R2 vc sts W)(hb:b<w3.heap.size)(hB:w3.heap.size<=B3)(m:Mv b n W W'):MI b n B3 BC k w3 cs xs ys vf vt vd ds v1 v2 R1 R2 vc sts W' where
 mv:=h.mv.trans hb m
 row:=m.row h.row (by omega)
 nz:=h.nz
 ox:=m.owns h.ox (by omega)
 oy:=m.owns h.oy (by omega)
 od:=m.owns h.od (by omega)
 r1:=m.owns h.r1 (by omega)
 r2:=m.owns h.r2 (by omega)
 oc:=m.owns h.oc (by omega)
 pt:=fun t ht=>(h.pt t ht).mv m (by omega)
theorem MI.gr(h:MI b n B3 BC k w3 cs xs ys vf vt vd ds v1 v2 R1 R2 vc sts W)(g:Gr W W'):MI b n B3 BC k w3 cs xs ys vf vt vd ds v1 v2 R1 R2 vc sts W' where
 mv:=h.mv.gr g
 row:=h.row.gr g
 nz:=h.nz
 ox:=Gr.owns h.ox g
 oy:=Gr.owns h.oy g
 od:=Gr.owns h.od g
 r1:=Gr.owns h.r1 g
 r2:=Gr.owns h.r2 g
 oc:=Gr.owns h.oc g
 pt:=fun t ht=>(h.pt t ht).gr g
theorem MI.set(h:MI b n B3 BC k w3 cs xs ys vf vt vd ds v1 v2 R1 R2 vc sts W)(hB:w3.heap.size<=B3)(o:Nat)(v:Value)(hi:∀x,v≠ .int .i64 x)(hbv:∀x,v≠ .bool x):MI b n B3 BC k w3 (cs.set o v) xs ys vf vt vd ds v1 v2 R1 R2 vc sts (W.setCell ⟨B3,o,none⟩ v) where
 mv:=h.mv.setc hB
 row:=h.row.set o v
 nz:=⟨fun u hu=>by rcases List.mem_or_eq_of_mem_set hu with q|rfl;exact h.nz.1 u q;exact hi,fun u hu=>by rcases List.mem_or_eq_of_mem_set hu with q|rfl;exact h.nz.2 u q;exact hbv⟩
 ox:=ownsRow_setCell_below h.ox (a:=⟨B3,o,none⟩) (Nat.lt_succ_self B3) v
 oy:=ownsRow_setCell_below h.oy (a:=⟨B3,o,none⟩) (Nat.lt_succ_self B3) v
 od:=ownsRow_setCell_below h.od (a:=⟨B3,o,none⟩) (Nat.lt_succ_self B3) v
 r1:=ownsRow_setCell_below h.r1 (a:=⟨B3,o,none⟩) (Nat.lt_succ_self B3) v
 r2:=ownsRow_setCell_below h.r2 (a:=⟨B3,o,none⟩) (Nat.lt_succ_self B3) v
 oc:=ownsRow_setCell_below h.oc (a:=⟨B3,o,none⟩) (Nat.lt_succ_self B3) v
 pt:=fun t ht=>(h.pt t ht).setT h.row (by decide)
theorem MI.app(h:MI b n B3 BC k w3 cs xs ys vf vt vd ds v1 v2 R1 R2 vc sts W)(hB:w3.heap.size<=B3){t:STS}{vc2:Value}(hp:lU (B3+1) W t)(ho:W'.ownsRow (B3+1) 53 3 vc2 (sts.length+1) (sts.flatMap tb++tb t))(hg:W.grownBy W' vc.ownBlock):MI b n B3 BC k w3 cs xs ys vf vt vd ds v1 v2 R1 R2 vc2 (sts++ [t]) W' where
 mv:=h.mv.grown hg (fun j e=>by have:=(h.oc.lt j e).1;omega)
 row:=h.row.grown hg (aJ h.oc h.row.s (by decide))
 nz:=h.nz
 ox:=h.ox.kept hg (mc h.oc h.ox (by decide))
 oy:=h.oy.kept hg (mc h.oc h.oy (by decide))
 od:=h.od.kept hg (mc h.oc h.od (by decide))
 r1:=h.r1.kept hg (mc h.oc h.r1 (by decide))
 r2:=h.r2.kept hg (mc h.oc h.r2 (by decide))
 oc:=by rw[List.length_append,List.flatMap_append];simpa using ho
 pt:=sr.snoc (fun t ht=>(h.pt t ht).grown h.oc hg) (hp.grown h.oc hg)
end
theorem gn{W:World}{Y:Nat}{ty:TypeId}{u0 u1 u2 u3 u4 u5 u6 u7 u8 u9 XG:Value}(r:Row W Y ty [u0,u1,u2,u3,u4,u5,u6,u7,u8,u9,XG]):
  W.cell? ⟨Y,0,none⟩=some u0/\W.cell? ⟨Y,1,none⟩=some u1/\W.cell? ⟨Y,2,none⟩=some u2/\W.cell? ⟨Y,3,none⟩=some u3/\W.cell? ⟨Y,4,none⟩=some u4/\W.cell? ⟨Y,5,none⟩=some u5/\W.cell? ⟨Y,6,none⟩=some u6/\W.cell? ⟨Y,7,none⟩=some u7/\W.cell? ⟨Y,8,none⟩=some u8/\W.cell? ⟨Y,9,none⟩=some u9/\W.cell? ⟨Y,10,none⟩=some XG/\Has W Y:=
 ⟨r.cell 0 (by simp),r.cell 1 (by simp),r.cell 2 (by simp),r.cell 3 (by simp),r.cell 4 (by simp),r.cell 5 (by simp),r.cell 6 (by simp),r.cell 7 (by simp),r.cell 8 (by simp),r.cell 9 (by simp),r.cell 10 (by simp),r.has⟩
theorem Rg{w:World}{B T o:Nat}{vs:List Value}{v:Value}{ap:Option Addr}{p:List Sup}(hs:ag 5 bG w ap p)(h:Row w B T vs)(hz:qD vs):ag 5 bG (w.setCell ⟨B,o,none⟩ v) ap p:=fun k hk=>by
 obtain⟨b',o',e,⟨c0,w0⟩,⟨a,c,c1,l1,f1,s1⟩,⟨c2,w2⟩,⟨c3,w3⟩,c4⟩:=hs k hk;have bS:b'≠B:=by
  rintro rfl;unfold Row at h;simp only[World.cell?,h] at c0;have c2:vs[o'+k*5]?=some (.int .i64 p[k].parent):=by simpa using c0
  exact hz.1 _ (List.mem_of_getElem? c2) _ rfl
 have oth:∀{q:Nat} {u:Value},w.cell? ⟨b',q,none⟩=some u->(w.setCell ⟨B,o,none⟩ v).cell? ⟨b',q,none⟩=some u:=fun hq=>by
  rw[World.cell?_setCell_other]
  ·exact hq
  intro e2;exact bS (congrArg Addr.block e2).symm
 exact⟨b',o',e,⟨oth c0,w0⟩,⟨a,c,oth c1,l1,f1,Bf s1 h hz.1⟩,⟨oth c2,w2⟩,⟨oth c3,w3⟩,oth c4⟩
theorem Iq:tx kW:=fun _ _ hg h=>h.gr hg
theorem qw(ts:List STS):(scs ts).length=ts.length:=by simp[scs]
theorem pu:qD [.slice none 0 0,.slice none 0 0,.slice none 0 0,.slice none 0 0,.slice none 0 0,.slice none 0 0,.slice none 0 0,.slice none 0 0,.slice none 0 0,.slice none 0 0,.slice none 0 0]:=⟨fun u hu x=>by simp at hu;subst hu;simp,fun u hu x=>by simp at hu;subst hu;simp⟩
theorem KA{a:Array Value}{W:World}{BR:Nat}{vs:List Value}(h2:a.getD 2 undef= .pointer (some ⟨BR,0,none⟩))(hr:Row W BR 34 vs)(hl:vs.length=11):(results Tryz.f10 a).run Tryz.prog W= .ok (.agg vs.toArray) W:=by
 have hi:(Tryz.prog.info? 34).map (·.size)=some 11:=by kernel_rfl
 have hv:=run_loadVar_row (P:=Tryz.prog) W BR 34 34 vs.toArray (0,0) _ hr Tryz.underlying34 rfl (by rw[hi];simp[hl]);have h3:a[2]?.getD undef= .pointer (some ⟨BR,0,none⟩):=by simpa using h2
 simp[results,Tryz.results10,h3,Sem.run_bind,hv,asAddr]
def j9(B:Nat):List Value->Nat->World->World
 | [],_,W=>W
 |v::vs,i,W=>j9 B vs (i+1) (W.setCell ⟨B,i,none⟩ v)
theorem qD.set{cs:List Value}(h:qD cs){v:Value}(hv:qD [v])(o:Nat):qD (cs.set o v):=
 ⟨fun u hu=>by rcases List.mem_or_eq_of_mem_set hu with q|rfl;exact h.1 u q;exact hv.1 _ (by simp),fun u hu=>by rcases List.mem_or_eq_of_mem_set hu with q|rfl;exact h.2 u q;exact hv.2 _ (by simp)⟩
theorem lx{P:World->Prop}{B T:Nat}(step:∀W cs o v,Row W B T cs->qD cs->P W->P (W.setCell ⟨B,o,none⟩ v)):∀(vs:List Value) (i:Nat) (W:World) (cs:List Value),Row W B T cs->qD cs->qD vs->P W->P (j9 B vs i W):=by
 intro vs;induction vs with
 |nil=>intro i W cs _ _ _ h;exact h
 |cons v vs ih=>intro i W cs hr hz hv h;have hv1:qD [v]:=⟨fun u hu=>hv.1 u (by simp at hu;simp[hu]),fun u hu=>hv.2 u (by simp at hu;simp[hu])⟩;exact ih (i+1) _ _ (hr.set i v) (hz.set hv1 i) ⟨fun u hu=>hv.1 u (by simp[hu]),fun u hu=>hv.2 u (by simp[hu])⟩ (step W cs i v hr hz h)
theorem PG{B T:Nat}:∀(vs post pre:List Value) (W:World),Row W B T (pre++post)->post.length=vs.length->Row (j9 B vs pre.length W) B T (pre++vs):=by
 intro vs;induction vs with
 |nil=>intro post pre W h hl;have:post= []:=List.eq_nil_of_length_eq_zero hl;subst this;exact h
 |cons v vs ih=>
  intro post pre W h hl;cases post with
  |nil=>simp at hl
  |cons u post=>have h2:=h.set pre.length v;rw[List.set_append_right _ _ (Nat.le_refl _),Nat.sub_self,List.set_cons_zero] at h2;have h3:=ih post (pre++ [v]) (W.setCell ⟨B,pre.length,none⟩ v) (by simpa using h2) (by simpa using hl);simpa [j9] using h3
theorem Wh{b n B3 BR:Nat}{w W:World}{ts:List CT}{p:List Sup}{xs ys:List Int}{A Bq:Rls}{ms:List Lmt}{ds:List Drw}{sts:List STS}{al ap af at2 a1 a2 a3 a4 am ad ac:Option Addr}{cl cf ct k1 k2 k3 k4 cm cd cc:Nat}
  (vs:List Value) (AL:qD vs) (hb:b<BR) (hBw:w.heap.size<=BR) (vP:b<w.heap.size) (hB3:BR<B3) (hRR:Row W BR 34 [.slice none 0 0,.slice none 0 0,.slice none 0 0,.slice none 0 0,.slice none 0 0,.slice none 0 0,.slice none 0 0,.slice none 0 0,.slice none 0 0,.slice none 0 0,.slice none 0 0])
  (hm:Mv b n w W) (ho:gP b w kW) (h1:W.ownsRow (BR+1) 130 5 (.slice al ts.length cl) ts.length (ts.flatMap iE)) (h2:dF (BR+1) W ts) (hts:1<=ts.length/\ts.length<=16) (h3:gP b W (fun W=>ag 5 bG W ap p)) (hp:p.length<=16)
  (h4:W.ownsRow (B3+1) 3 1 (.slice af ts.length cf) ts.length (an xs)) (h5:W.ownsRow (B3+1) 3 1 (.slice at2 ts.length ct) ts.length (an ys)) (wx:∀k (hk:k<xs.length),aK xs[k]) (wy:∀k (hk:k<ys.length),aK ys[k])
  (ra:RlH b W a1 a2 k1 k2 A) (rb:RlH b W a3 a4 k3 k4 Bq) (h6:W.ownsRow (B3+1) 155 3 (.slice am ms.length cm) ms.length (ms.flatMap xG)) (lk:LX (clks ts) ms) (h7:W.ownsRow (B3+1) 128 4 (.slice ad ds.length cd) ds.length (ds.flatMap eL)) (wd:∀x∈ds,aK x.supply/\aK x.low/\aK x.high/\aK x.load) (ld:ds.length<=32)
  (h8:W.ownsRow (B3+1) 53 3 (.slice ac sts.length cc) sts.length (sts.flatMap tb)) (h9:sr (B3+1) W sts) (ls:sts.length<=32):
  gP b (j9 BR vs 0 W) (fun W=>xj W (clks ts) p xs ys A Bq ms ds (scs sts) al ap af at2 a1 a2 a3 a4 am ad ac k1 k2 k3 k4)/\Mv b n w (j9 BR vs 0 W):=by
 have bS:BR≠b:=by omega
 have kO:∀{base e size m:Nat} {v:Value} {us:List Value},BR<base->W.ownsRow base e size v m us->(j9 BR vs 0 W).ownsRow base e size v m us:=fun{base e size m v us} aA h=>lx (P:=fun W=>W.ownsRow base e size v m us) (fun W cs o u _ _ q=>ownsRow_setCell_below q (a:=⟨BR,o,none⟩) aA u) vs 0 W _ hRR pu AL h;have kM:Mv b n w (j9 BR vs 0 W):=lx (P:=fun W=>Mv b n w W) (fun W cs o u _ _ q=>q.setc hBw) vs 0 W _ hRR pu AL hm;have kC:dF (BR+1) (j9 BR vs 0 W) ts:=lx (P:=fun W=>dF (BR+1) W ts) (fun W cs o u hr _ q t ht=>⟨(q t ht).1.othT hr.s (by decide),(q t ht).2.1,(q t ht).2.2.1.othT hr.s (by decide),(q t ht).2.2.2⟩) vs 0 W _ hRR pu AL h2;have kP:sr (B3+1) (j9 BR vs 0 W) sts:=lx (P:=fun W=>sr (B3+1) W sts) (fun W cs o u hr _ q t ht=>(q t ht).setT hr (by decide)) vs 0 W _ hRR pu AL h9;have kA:RlH b (j9 BR vs 0 W) a1 a2 k1 k2 A:=lx (P:=fun W=>RlH b W a1 a2 k1 k2 A) (fun W cs o u hr hz q=>q.set bS hr hz) vs 0 W _ hRR pu AL ra;have kB:RlH b (j9 BR vs 0 W) a3 a4 k3 k4 Bq:=lx (P:=fun W=>RlH b W a3 a4 k3 k4 Bq) (fun W cs o u hr hz q=>q.set bS hr hz) vs 0 W _ hRR pu AL rb;have kS:gP b (j9 BR vs 0 W) (fun W=>ag 5 bG W ap p):=lx (P:=fun W=>gP b W (fun W=>ag 5 bG W ap p)) (fun W cs o u hr hz q=>Dd bS q fun W1 ⟨x,e⟩ q1=>Rg (vs:=cs) (T:=34) q1 (by subst e;exact hr.oth (Ne.symm bS)) hz) vs 0 W _ hRR pu AL h3;have kH:=ho.mv vP kM Iq;have o1:=kO (by omega) h1;have o4:=kO (by omega) h4;have o5:=kO (by omega) h5;have o6:=kO (by omega) h6;have o7:=kO (by omega) h7;have o8:=kO (by omega) h8;generalize j9 BR vs 0 W=F at*;refine⟨fun q=>?_,kM⟩;have t1:=ownsRow_setCell_below o1 (a:=⟨b,1,none⟩) (show b<BR+1 by omega) (.int .i64 q);have t4:=ownsRow_setCell_below o4 (a:=⟨b,1,none⟩) (show b<B3+1 by omega) (.int .i64 q);have t5:=ownsRow_setCell_below o5 (a:=⟨b,1,none⟩) (show b<B3+1 by omega) (.int .i64 q);have t6:=ownsRow_setCell_below o6 (a:=⟨b,1,none⟩) (show b<B3+1 by omega) (.int .i64 q);have t7:=ownsRow_setCell_below o7 (a:=⟨b,1,none⟩) (show b<B3+1 by omega) (.int .i64 q);have t8:=ownsRow_setCell_below o8 (a:=⟨b,1,none⟩) (show b<B3+1 by omega) (.int .i64 q);obtain⟨_,_,e1,_,s1⟩:=yi t1 (fun t ht=>⟨(kC t ht).1.oth (show b<BR+1 by omega),(kC t ht).2.1,(kC t ht).2.2.1.oth (show b<BR+1 by omega),(kC t ht).2.2.2⟩:dF (BR+1) _ ts) (by omega);cases e1
 obtain⟨_,_,e4,s4⟩:=sV t4 wx;cases e4
 obtain⟨_,_,e5,s5⟩:=sV t5 wy;cases e5
 obtain⟨_,_,e6,s6⟩:=J7 t6 (by rw[ez];omega) lk;cases e6
 obtain⟨_,_,e7,_,s7⟩:=uG t7 wd;cases e7
 obtain⟨_,_,e8,s8⟩:=JL t8 (base2:=B3+1) (fun t ht=>by obtain⟨r0,v0,r1,v1,e,g1,g2,g3⟩:=kP t ht;exact⟨r0,v0,r1,v1,e,g1.oth (by omega),g2,g3⟩)
 rw[qw] at e8;cases e8
 refine⟨⟨s1,kS q,s6,s7,s8,by rw[ez];unfold Fit;omega,by unfold Fit;omega,by have:=lk.1;unfold Fit;omega,by unfold Fit;omega,by rw[qw];unfold Fit;omega,kH q⟩,s4,s5,⟨kA.on q,kA.lv q,kA.k1,kA.k2,kA.f1,kA.f2⟩,⟨kB.on q,kB.lv q,kB.k1,kB.k2,kB.f1,kB.f2⟩⟩
theorem IV{W:World}{Y:Nat}{ty:TypeId}{u0 u1 u2:Value}(r:Row W Y ty [u0,u1,u2]):W.cell? ⟨Y,0,none⟩=some u0/\W.cell? ⟨Y,1,none⟩=some u1/\W.cell? ⟨Y,2,none⟩=some u2/\Has W Y:=⟨r.cell 0 (by simp),r.cell 1 (by simp),r.cell 2 (by simp),r.has⟩
theorem TD{R:List Rt}{x:Scl}{k:Nat}{r:Rt}(hk:x.clock=(k:Int))(hr:cZ R k=r):cn R x=jK x.points (fW r) (gC r):=by
 unfold cn;have e:x.clock.toNat=k:=by omega
 rw[e,hr]
theorem ME(l:List Clk)(s:List Int)(x:Scl)(al aS a:Option Addr)(cl cs c:Nat)(w:World)(h:ag 5 cY w al l)(hs:ag 1 RI w aS s)(hc:bA l=0)(aZ:aI l s)(lR:0<=x.clock)(jm:x.clock<l.length)(hp:ag 2 qT w a x.points)(hf:Fit x.points.length):
  Calls Tryz.prog 102 #[.slice al l.length cl,.slice aS s.length cs,.agg #[.int .i64 x.clock,.int .i64 x.supply,.slice a x.points.length c]] w (aN w (.tuple #[.int .i64 (cn (rts l s) x).1,.bool (cn (rts l s) x).2])):=by
 have hl:=cg (bm hc).1;have hRl:(rts l s).length=l.length:=kt _ _ aZ.1.symm;obtain⟨w0,nw⟩:∃w0:World,w0=w.alloc (.cells #[.int .i64 x.clock,.int .i64 x.supply,.slice a x.points.length c] 53):=⟨_,rfl⟩;have G0:Hid (Gr w w0):=aa (by rw[nw];exact(gfl _).alloc _);have RX:Hid (Row w0 w.heap.size 53 [.int .i64 x.clock,.int .i64 x.supply,.slice a x.points.length c]):=aa (by rw[nw];exact Row.new w _ _);have ST:=aa (sq l s al aS cl cs w0 (bj h G0.out) (hs.giI G0.out) hc aZ);rw[aZ.1] at ST;have RG:=aa (pY hc aZ);have HP:=aa hp;have HF:=aa hf;obtain⟨R,eR⟩:∃R,rts l s=R:=⟨_,rfl⟩;have ST2:Hid (Calls Tryz.prog 21 #[.slice al l.length cl,.slice aS l.length cs] w0 (fun e w'=>∃v1 v2,e= .returned (.tuple #[v1,v2])/\w'.ownsRow w0.heap.size 57 2 v1 l.length (gu (R.map prR))/\w'.ownsRow w0.heap.size 4 1 v2 l.length (bg (onL R))/\Gr w0 w')):=aa (by rw[<-eR];exact ST.out);rw[eR] at RG hRl ⊢;have HL:=aa hRl;obtain⟨q,hq⟩:∃q:Nat,x.clock=q:=⟨_,(Int.toNat_of_nonneg lR).symm⟩;have yb:q<R.length:=by omega
 have hq2:(q:Int)<l.length:=by omega
 have NR:=aa (fun r (hr:cZ R q=r)=>TD (R:=R) hq hr);have RW:=aa (vj RG.out yb);have HQ:=aa hq;rw[aZ.1];clear ST h hs hc aZ eR hRl hp hf lR jm hq;go_enter Tryz.func102,Tryz.ntmps102;go_upto_region 1 with fail;rw[<-nw];clear nw;go_wp2_with fail;refine ST2.out.mono ?_;rintro e w1 ⟨v1,v2,rfl,wL,wY,hg⟩;obtain⟨a1,c1,rfl,hr⟩:=nD HL.out wL;obtain⟨a2,c2,rfl,nG⟩:=Cn HL.out wY;have G1:=aa (G0.out.trans hg);obtain⟨y0,y1,y2,yh⟩:=IV (RX.out.gr hg);obtain⟨g1,rfl,r0,r1⟩:=hr q yb;obtain⟨g2,rfl,r2⟩:=nG q yb;clear wL wY hr nG hg ST2;have gh1:=ae r0;have gh2:=ae r2;rw[HQ.out] at y0;obtain⟨r,qB⟩:∃r,cZ R q=r:=⟨_,rfl⟩;rw[qB] at r0 r1 r2 RW;have HG:=RG.out q yb;rw[<-uH yb,qB] at HG;have EN:=aa (NR.out r qB);clear qB;cases r with
 |none=>have E2:Hid (cn R x=(0,true)):=aa (by rw[EN.out];simp[jK,fW]);simp only[fW,gC,Option.isSome_none] at r0 r1 r2;clear HG RW;go_wp2_with fail;refine bodyPost_ret (v:= .tuple #[.int .i64 0,.bool true]) (by simp[results,Tryz.results102,go_sem]) rfl ?_;exact⟨by rw[E2.out],G1.out⟩
 |some nd=>
  obtain⟨n,d⟩:=nd;obtain⟨hv,gc⟩:=HG n d rfl;have E2:Hid (cn R x=gR x.points n d):=aa (by rw[EN.out];unfold jK;rw[if_neg (by simp only[fW];omega)];rfl);simp only[fW,gC,Option.isSome_some] at r0 r1 r2 RW;have VC:=aa (fun W (hW:Gr w1 W)=>KT x n d a c W (kK HP.out (G1.out.trans hW)) HF.out RW.out.1 RW.out.2);rw[HQ.out] at VC;obtain⟨u,hu⟩:∃u,(gR x.points n d).1=u:=⟨_,rfl⟩;obtain⟨v,hv2⟩:∃v,(gR x.points n d).2=v:=⟨_,rfl⟩;rw[hu,hv2] at VC;have E3:Hid (cn R x=(u,v)):=aa (by rw[E2.out,<-hu,<-hv2]);clear HG hv gc RW hu hv2 EN E2;go_wp2_with fail;refine ar (by kernel_rfl) (by kernel_rfl) ?_;repeat(go_big_quiet_step (first|(go_at_call 22;with_reducible exact bJ (VC.out _ grr))))
  refine wpQuiet_nil ?_;rintro _ ⟨⟨O,d9⟩,rfl⟩;go_wp2_with fail;refine bodyPost_ret (v:= .tuple #[.int .i64 u,.bool v]) (by simp[results,Tryz.results102,go_sem]) rfl ?_;exact⟨by rw[E3.out],G1.out.trans ((gfl _).xt _ _)⟩
theorem QI(l:List Clk)(p:List Sup)(c:List Scl)(al ap ac:Option Addr)(cl cp cc:Nat)(w:World)(h:ag 5 cY w al l)(hp:ag 5 bG w ap p)(hs:ag 3 lN w ac c)(fl:Fit l.length)(fp:Fit p.length)(fc:Fit c.length):
  Calls Tryz.prog 37 #[.slice al l.length cl,.slice ap p.length cp,.slice ac c.length cc] w (aN w (.bool (decide (fU l p c)))):=by
 have H:=aa h;have HP:=aa hp;have HS:=aa hs;have FP:=aa fp;have CW:=aa (Sv l);clear h hp hs;go_enter Tryz.func37,Tryz.ntmps37;go_wp2_with fail;refine(j4 l al cl w H.out fl).mono ?_;rintro e w1 ⟨rfl,bD⟩;have G1:=aa bD;clear bD;by_cases e1:bA l=0;rotate_left
 ·have b1:(bA l !=0)=true:=by simp[e1]
  have D:=aa (show false=decide (fU l p c) from bC (fun q=>e1 q.1));clear e1;go_wp2_with fail;go_ret;exact⟨ai D.out,G1.out⟩
 have E1:=aa e1;rw[e1];clear e1;go_wp2_with fail;refine(fP p ap cp w1 (aX HP.out G1.out) FP.out).mono ?_;rintro e w2 ⟨rfl,bY⟩;have G2:=aa (G1.out.trans bY);clear bY;by_cases e2:chk p=0;rotate_left
 ·have b2:(chk p !=0)=true:=by simp[e2]
  have D:=aa (show false=decide (fU l p c) from bC (fun q=>e2 q.2.1));clear e2;go_wp2_with fail;go_ret;exact⟨ai D.out,G2.out⟩
 have E2:=aa e2;rw[e2];clear e2;by_cases e3:32<c.length
 ·have b3:(32:Int)<c.length:=by omega
  have D:=aa (show false=decide (fU l p c) from bC (fun q=>by have:=q.2.2.1;omega));clear e3;go_wp2_with fail;go_ret;exact⟨ai D.out,G2.out⟩
 have b3:(c.length:Int)<=32:=by omega
 have Yp:=aa (show c.length<=32 by omega);go_wp2_with fail;clear b3 e3;go_loopw [24] (fun i wr=>∃k:Nat,k<=c.length/\i= .int .i64 k/\(∀j (hj:j<c.length),j<k->kU l.length p.length c[j])/\Gr w wr) (fun i _=>c.length-(intOf i).toNat);case atStart=>exact⟨0,Nat.zero_le _,rfl,fun j _ h=>absurd h (by omega),G2.out⟩
 case round=>
  clear G1 G2;obtain⟨k,hk,rfl,aH,hg⟩:=hrel;have HA:=aa aH;have HG:=aa hg;clear aH hg;by_cases aA:k<c.length
  ·obtain⟨b,o,a,ca,rfl,c0,c1,c2,hv⟩:=Fl (uB HS.out HG.out) aA;obtain⟨a',ca',hva,_,hpf,sw,qy,nA⟩:=hv;obtain⟨x,hx⟩:∃x,c[k]=x:=⟨_,rfl⟩;have NX:Hid (kU l.length p.length x->∀j (hj:j<c.length),j<k+1->kU l.length p.length c[j]):=aa (fun q j hj hjk=>by
    by_cases e:j=k
    ·subst e;rw[hx];exact q
    exact HA.out j hj (by omega))
   have NN:Hid (¬kU l.length p.length x->¬fU l p c):=aa (fun q r=>q (by rw[<-hx];exact r.2.2.2 _ (List.getElem_mem aA)));rw[hx] at c0 c1 c2 sw hpf hva;have ea:a'=a/\ca'=ca:=by have:=hva;simp at this;exact⟨this.1.symm,this.2.symm⟩
   obtain⟨rfl,rfl⟩:=ea;have PS:=aa sw;have PF:=aa hpf;obtain⟨xc,hxc⟩:∃y,x.clock=y:=⟨_,rfl⟩;obtain⟨xs,Au⟩:∃y,x.supply=y:=⟨_,rfl⟩;rw[hxc] at c0;rw[Au] at c1;have SO:Hid (kU l.length p.length x↔0<=xc/\xc<l.length/\0<=xs/\xs<p.length/\fA x.points):=aa (by unfold kU;rw[hxc,Au]);have ch:=ae c0;clear hva sw hpf hx hxc Au qy nA;by_cases a1:xc<0
   ·have b1:decide (xc<0)=true:=dtx a1;have D:=aa (show false=decide (fU l p c) from bC (NN.out (by rw[SO.out];omega)));clear a1;go_wp2_with fail;go_ret;exact⟨ai D.out,HG.out.alloc _⟩
   have b1:decide (xc<0)=false:=dfx a1;by_cases a2:(l.length:Int)<=xc
   ·have b2:decide ((l.length:Int)<=xc)=true:=dtx a2;have D:=aa (show false=decide (fU l p c) from bC (NN.out (by rw[SO.out];omega)));clear a2 a1;go_wp2_with fail;go_ret;exact⟨ai D.out,HG.out.alloc _⟩
   have b2:decide ((l.length:Int)<=xc)=false:=dfx a2;by_cases a3:xs<0
   ·have b3:decide (xs<0)=true:=dtx a3;have D:=aa (show false=decide (fU l p c) from bC (NN.out (by rw[SO.out];omega)));clear a3 a2 a1;go_wp2_with fail;go_ret;exact⟨ai D.out,HG.out.alloc _⟩
   have b3:decide (xs<0)=false:=dfx a3;by_cases a4:(p.length:Int)<=xs
   ·have b4:decide ((p.length:Int)<=xs)=true:=dtx a4;have D:=aa (show false=decide (fU l p c) from bC (NN.out (by rw[SO.out];omega)));clear a4 a3 a2 a1;go_wp2_with fail;go_ret;exact⟨ai D.out,HG.out.alloc _⟩
   have b4:decide ((p.length:Int)<=xs)=false:=dfx a4;have SX:Hid (fA x.points->kU l.length p.length x):=aa (fun q=>SO.out.2 ⟨by omega,by omega,by omega,by omega,q⟩);clear a4 a3 a2 a1;go_wp2_with fail;refine(Cp x.points a' ca' _ (kK PS.out ((gfl _).alloc _)) PF.out).mono ?_;rintro e w3 ⟨rfl,O3,d3,rfl⟩;by_cases e4:fA x.points
   ·have E4:=aa e4;rw[dtx e4];clear e4;go_wp2_with fail;go_roundw;case rel=>exact⟨k+1,by omega,by go_num,NX.out (SX.out E4.out),HG.out.trans (((gfl _).alloc _).xt _ _)⟩
    case measure=>simp[intOf];omega
   have D:=aa (show false=decide (fU l p c) from bC (NN.out (fun q=>e4 q.2.2.2.2)));rw[dfx e4];clear e4;go_wp2_with fail;go_ret;exact⟨ai D.out,HG.out.trans (((gfl _).alloc _).xt _ _)⟩
  have D:=aa (show true=decide (fU l p c) from tB ⟨E1.out,E2.out,Yp.out,fun x hx=>by obtain⟨j,hj,rfl⟩:=List.getElem_of_mem hx;exact HA.out j hj (by omega)⟩)
  go_wp2_with fail;go_ret;exact⟨ai D.out,HG.out⟩
end Go.Proofs.YtlmhkjdkcoiioaaGreatDoor
