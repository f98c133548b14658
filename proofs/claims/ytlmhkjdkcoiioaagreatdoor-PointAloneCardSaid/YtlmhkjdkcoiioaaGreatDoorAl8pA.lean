/- Lemmas and contracts for the proof of PointAlone (several texts in one, printed by wip/tools/pack.py): RxH QaS ZMkC QaN QaOr. -/
import Derived.Test.YtlmhkjdkcoiioaaGreatDoorAl8pz
import Derived.Test.YtlmhkjdkcoiioaaGreatDoorAl8po
import Derived.Test.YtlmhkjdkcoiioaaGreatDoorAl8pp
import Derived.Test.YtlmhkjdkcoiioaaGreatDoorAl8pu
import Derived.Test.YtlmhkjdkcoiioaaGreatDoorAl8py
import Derived.Test.YtlmhkjdkcoiioaaGreatDoorAl8pa
import Derived.Test.YtlmhkjdkcoiioaaGreatDoorAl8pb
import Derived.Test.YtlmhkjdkcoiioaaGreatDoorAl8pv
set_option maxRecDepth 100000
set_option maxHeartbeats 16000000
set_option linter.unusedVariables false
set_option linter.unusedSimpArgs false
namespace Go.Proofs.YtlmhkjdkcoiioaaGreatDoor
open Go.RowKit
open Classical
structure RlA(W:World)(a1 a2:Option Addr)(c1 c2:Nat)(r:Rls):Prop where
 on:ag 1 RB W a1 r.on
 lv:ag 1 RI W a2 r.level
 k1:r.on.length<=c1
 k2:r.level.length<=c2
 f1:Fit r.on.length
 f2:Fit r.level.length
theorem RlA.gr{W W':World}{a1 a2:Option Addr}{c1 c2:Nat}{r:Rls}(h:RlA W a1 a2 c1 c2 r)(hg:Gr W W'):RlA W' a1 a2 c1 c2 r:=⟨h.on.giB hg,h.lv.giI hg,h.k1,h.k2,h.f1,h.f2⟩
def RV(w:World)(v:Value)(r:Rls):Prop:=∃b1 b2 d1 d2,v= .agg #[.slice b1 r.on.length d1,.slice b2 r.level.length d2]/\RlA w b1 b2 d1 d2 r
def GivesRl(W:World)(r:Rls)(x:Int)(e:Ending)(w':World):Prop:=∃v,e= .returned (.tuple #[v,.int .i64 x])/\RV w' v r/\Gr W w'
def BoxV(w:World)(N:Nat)(r:Rls):Prop:=∃b1 b2 d1 d2,Row w N 29 [.slice b1 r.on.length d1,.slice b2 r.level.length d2]/\RlA w b1 b2 d1 d2 r
structure AS(w:World)(l:List Clk)(p:List Sup)(ms:List Lmt)(d:List Drw)(c:List Scl)(al ap am ad ac:Option Addr):Prop where
 clks:ag 5 cY w al l
 sups:ag 5 bG w ap p
 lmts:ag 3 lQ w am ms
 drws:ag 4 cX w ad d
 scls:ag 3 lN w ac c
 fl:Fit l.length
 fp:Fit p.length
 fm:Fit ms.length
 fd:Fit d.length
 fc:Fit c.length
 off:kW w
theorem AS.gr{w w':World}{l:List Clk}{p:List Sup}{ms:List Lmt}{d:List Drw}{c:List Scl}{al ap am ad ac:Option Addr}(h:AS w l p ms d c al ap am ad ac)(hg:Gr w w'):AS w' l p ms d c al ap am ad ac:=
 ⟨h.clks.gr cY.mono hg,h.sups.gr bG.mono hg,h.lmts.gr lQ.mono hg,h.drws.gr cX.mono hg,h.scls.gr lN.mono hg,h.fl,h.fp,h.fm,h.fd,h.fc,h.off.gr hg⟩
def j3(l:List Clk)(p:List Sup)(s:List Int)(r:Rls)(ms:List Lmt)(d:List Drw)(c:List Scl):Prop:=aG l ms s=true/\bi p r d/\∀x∈c,mr p (rts l s) r x
theorem jJ{W:World}{Y:Nat}{ty:TypeId}{u0 u1 u2 u3 u4:Value}(r:Row W Y ty [u0,u1,u2,u3,u4]):W.cell? ⟨Y,0,none⟩=some u0/\W.cell? ⟨Y,1,none⟩=some u1/\W.cell? ⟨Y,2,none⟩=some u2/\W.cell? ⟨Y,3,none⟩=some u3/\W.cell? ⟨Y,4,none⟩=some u4/\Has W Y:=⟨r.cell 0 (by simp),r.cell 1 (by simp),r.cell 2 (by simp),r.cell 3 (by simp),r.cell 4 (by simp),r.has⟩
theorem ce{W:World}{Y:Nat}{ty:TypeId}{u0 u1:Value}(r:Row W Y ty [u0,u1]):W.cell? ⟨Y,0,none⟩=some u0/\W.cell? ⟨Y,1,none⟩=some u1/\Has W Y:=⟨r.cell 0 (by simp),r.cell 1 (by simp),r.has⟩
theorem row1{W:World}{Y:Nat}{ty:TypeId}{u0:Value}(r:Row W Y ty [u0]):W.cell? ⟨Y,0,none⟩=some u0/\Has W Y:=⟨r.cell 0 (by simp),r.has⟩
theorem Cj(l:List Clk)(p:List Sup)(s:List Int)(r:Rls)(ms:List Lmt)(d:List Drw)(c:List Scl)(al ap am ad ac aS a1 a2:Option Addr)(cl cp cm cd cc cs c1 c2:Nat)(w:World)(h:AS w l p ms d c al ap am ad ac)(hs:ag 1 RI w aS s)(fs:Fit s.length)(hr:RlA w a1 a2 c1 c2 r):
  Calls Tryz.prog 51 #[.agg #[.slice al l.length cl,.slice ap p.length cp,.slice am ms.length cm,.slice ad d.length cd,.slice ac c.length cc],.slice aS s.length cs,.agg #[.slice a1 r.on.length c1,.slice a2 r.level.length c2]] w (aN w (.bool (decide (j5 l p s r ms d c)))):=by
 have E:=aa h;have S:=aa hs;have RA:=aa hr;obtain⟨W0,hW0⟩:∃W0:World,Hid (W0=(w.alloc (.cells #[.slice al l.length cl,.slice ap p.length cp,.slice am ms.length cm,.slice ad d.length cd,.slice ac c.length cc] 105)).alloc (.cells #[.slice a1 r.on.length c1,.slice a2 r.level.length c2] 29)):=⟨_,aa rfl⟩;have G0:Hid (Gr w W0):=aa (by rw[hW0.out];exact((gfl _).alloc _).alloc _);have R3:Hid (Row W0 w.heap.size 105 [.slice al l.length cl,.slice ap p.length cp,.slice am ms.length cm,.slice ad d.length cd,.slice ac c.length cc]):=aa (by rw[hW0.out];exact(Row.new _ _ _).alloc _);have R5:Hid (Row W0 (w.heap.size+1) 29 [.slice a1 r.on.length c1,.slice a2 r.level.length c2]):=aa (by rw[hW0.out];have:=Row.new (w.alloc (.cells #[.slice al l.length cl,.slice ap p.length cp,.slice am ms.length cm,.slice ad d.length cd,.slice ac c.length cc] 105)) #[.slice a1 r.on.length c1,.slice a2 r.level.length c2] 29;simpa using this);have Z0:Hid (Gr W0 W0):=aa (gfl _);clear h hs hr;go_enter Tryz.func51,Tryz.ntmps51;go_upto_region 1 with fail;rw[<-hW0.out];clear hW0;obtain⟨x0,x1,x2,x3,x4,xh⟩:=jJ (R3.out.gr Z0.out);obtain⟨y0,y1,yh⟩:=ce (R5.out.gr Z0.out);go_wp2_with fail;clear x0 x1 x2 x3 x4 xh y0 y1 yh;refine(Ck l p c al ap ac cl cp cc W0 (E.out.clks.gr cY.mono (G0.out.trans Z0.out)) (E.out.sups.gr bG.mono (G0.out.trans Z0.out)) (E.out.scls.gr lN.mono (G0.out.trans Z0.out)) E.out.fl E.out.fp E.out.fc).mono ?_;rintro e w1 ⟨rfl,bD⟩;have G1:=aa (Z0.out.trans bD);clear bD;by_cases e1:fU l p c
 ·rw[dtx e1];have E1:=aa e1;clear e1;obtain⟨x0,x1,x2,x3,x4,xh⟩:=jJ (R3.out.gr G1.out);obtain⟨y0,y1,yh⟩:=ce (R5.out.gr G1.out);go_wp2_with fail;clear x0 x1 x2 x3 x4 xh y0 y1 yh;refine(qF l ms al am cl cm w1 (E.out.clks.gr cY.mono (G0.out.trans G1.out)) E.out.fl (E.out.lmts.gr lQ.mono (G0.out.trans G1.out)) E.out.fm).mono ?_;rintro e w2 ⟨rfl,bY⟩;have G2:=aa (G1.out.trans bY);clear bY;by_cases e2:fC l ms
  ·rw[dtx e2];have E2:=aa e2;clear e2;obtain⟨x0,x1,x2,x3,x4,xh⟩:=jJ (R3.out.gr G2.out);obtain⟨y0,y1,yh⟩:=ce (R5.out.gr G2.out);go_wp2_with fail;clear x0 x1 x2 x3 x4 xh y0 y1 yh;refine(qd p d ap ad cp cd w2 (E.out.sups.gr bG.mono (G0.out.trans G2.out)) E.out.fp (E.out.drws.gr cX.mono (G0.out.trans G2.out)) E.out.fd).mono ?_;rintro e w3 ⟨rfl,cG⟩;have G3:=aa (G2.out.trans cG);clear cG;by_cases e3:b7 p d
   ·rw[dtx e3];have E3:=aa e3;clear e3;obtain⟨x0,x1,x2,x3,x4,xh⟩:=jJ (R3.out.gr G3.out);obtain⟨y0,y1,yh⟩:=ce (R5.out.gr G3.out);go_wp2_with fail;clear x0 x1 x2 x3 x4 xh y0 y1 yh;refine(js l s al aS cl cs w3 (E.out.clks.gr cY.mono (G0.out.trans G3.out)) (S.out.giI (G0.out.trans G3.out)) E.out.fl fs).mono ?_;rintro e w4 ⟨rfl,gy⟩;have G4:=aa (G3.out.trans gy);clear gy;by_cases e4:bA l=0/\aI l s
    ·rw[dtx e4];have E4:=aa e4;clear e4;obtain⟨x0,x1,x2,x3,x4,xh⟩:=jJ (R3.out.gr G4.out);obtain⟨y0,y1,yh⟩:=ce (R5.out.gr G4.out);go_wp2_with fail;clear x0 x1 x2 x3 x4 xh y0 y1 yh;refine(tz p r ap a1 a2 cp c1 c2 w4 (E.out.sups.gr bG.mono (G0.out.trans G4.out)) E.out.fp (RA.out.on.giB (G0.out.trans G4.out)) (RA.out.lv.giI (G0.out.trans G4.out)) RA.out.f1 RA.out.f2).mono ?_;rintro e w5 ⟨rfl,jl⟩;have G5:=aa (G4.out.trans jl);clear jl;by_cases e5:bL p r
     ·rw[dtx e5];have E5:=aa e5;clear e5;have D:=aa (show true=decide (j5 l p s r ms d c) from tB ⟨E1.out,E4.out.2,E5.out,E2.out,E3.out⟩);go_wp2_with fail;go_ret;exact⟨ai D.out,G0.out.trans G5.out⟩
     have D:=aa (show false=decide (j5 l p s r ms d c) from bC (fun q=>e5 q.2.2.1));rw[dfx e5];clear e5;go_wp2_with fail;go_ret;exact⟨ai D.out,G0.out.trans G5.out⟩
    have D:=aa (show false=decide (j5 l p s r ms d c) from bC (fun q=>e4 ⟨q.1.1,q.2.1⟩));rw[dfx e4];clear e4;go_wp2_with fail;go_ret;exact⟨ai D.out,G0.out.trans G4.out⟩
   have D:=aa (show false=decide (j5 l p s r ms d c) from bC (fun q=>e3 q.2.2.2.2));rw[dfx e3];clear e3;go_wp2_with fail;go_ret;exact⟨ai D.out,G0.out.trans G3.out⟩
  have D:=aa (show false=decide (j5 l p s r ms d c) from bC (fun q=>e2 q.2.2.2.1));rw[dfx e2];clear e2;go_wp2_with fail;go_ret;exact⟨ai D.out,G0.out.trans G2.out⟩
 have D:=aa (show false=decide (j5 l p s r ms d c) from bC (fun q=>e1 q.1));rw[dfx e1];clear e1;go_wp2_with fail;go_ret;exact⟨ai D.out,G0.out.trans G1.out⟩
theorem IH(q0 q1 q2:Nat)(l:List Scl)(ao:Option Addr)(cap:Nat)(p:Scl->Prop)(w:World)(h:ag 3 lN w ao l)(hf:Fit l.length)(hp:iJ Dg 114 #[.pointer (some ⟨q0,0,none⟩),.pointer (some ⟨q1,0,none⟩),.pointer (some ⟨q2,0,none⟩)] l p w):
  Calls Tryz.prog 153 #[.slice ao l.length cap,.func (.func 114) #[] #[.pointer (some ⟨q0,0,none⟩),.pointer (some ⟨q1,0,none⟩),.pointer (some ⟨q2,0,none⟩)]] w (mW p l w):=by
 unfold Fit at hf;have H:=aa h;have HP:=aa hp;clear h hp;go_enter Tryz.func153,Tryz.ntmps153;go_wp2;go_loopw [8] (fun i wr=>∃k:Nat,k<=l.length/\i= .int .i64 k/\(∀j (hj:j<k) (lA:j<l.length),¬p l[j])/\Gr w wr) (fun i _=>l.length-(intOf i).toNat);case atStart=>exact⟨0,Nat.zero_le _,rfl,fun j h=>absurd h (by omega),gfl _⟩
 case round=>
  obtain⟨k,hk,rfl,aH,hg⟩:=hrel;have HA:=aa aH;have HG:=aa hg;clear aH hg;by_cases aA:k<l.length
  ·obtain⟨b,o,al,cl,rfl,c0,c1,c2,hv⟩:=Fl (uB H.out HG.out) aA;have cr:=HP.out wr (.agg #[.int .i64 l[k].clock,.int .i64 l[k].supply,.slice al l[k].points.length cl]) k aA HG.out hv;by_cases hq:p l[k]
   ·rw[dtx hq] at cr;have Q:=aa hq;clear hq;go_wp2_with fail;refine cr.mono ?_;rintro e w' ⟨rfl,O,d,rfl⟩;go_wp2_with fail;go_ret;exact⟨_,rfl,.inr ⟨k,aA,rfl,Q.out,fun j hj=>HA.out j hj (by omega)⟩,HG.out.xt _ _⟩
   rw[dfx hq] at cr;have Q:=aa hq;clear hq;go_wp2_with fail;refine cr.mono ?_;rintro e w' ⟨rfl,O,d,rfl⟩;go_wp2_with fail;go_roundw;case rel=>
    refine⟨k+1,by omega,by go_num,fun j hj lA=>?_,HG.out.xt _ _⟩;by_cases e:j=k
    ·subst e;exact Q.out
    exact HA.out j (by omega) lA
   case measure=>simp[intOf];omega
  go_wp2;go_ret;exact⟨_,rfl,.inl ⟨rfl,fun j hj=>HA.out j (by omega) hj⟩,HG.out⟩
theorem Dq(q0 q1 q2:Nat)(l:List Scl)(ao:Option Addr)(cap:Nat)(p:Scl->Prop)(w:World)(h:ag 3 lN w ao l)(hf:Fit l.length)(hp:iJ Dg 114 #[.pointer (some ⟨q0,0,none⟩),.pointer (some ⟨q1,0,none⟩),.pointer (some ⟨q2,0,none⟩)] l p w):
  Calls Tryz.prog 99 #[.slice ao l.length cap,.func (.func 114) #[] #[.pointer (some ⟨q0,0,none⟩),.pointer (some ⟨q1,0,none⟩),.pointer (some ⟨q2,0,none⟩)]] w (aN w (.bool (decide (lE p l)))):=by
 have H:=aa h;have HP:=aa hp;have HF:=aa hf;clear h hp hf;go_enter Tryz.func99,Tryz.ntmps99;go_wp2_with fail;refine(IH q0 q1 q2 l ao cap p _ H.out HF.out HP.out).mono ?_;rintro e w' ⟨x,rfl,hx,O,d,rfl⟩;have X:=aa hx;clear hx;go_wp2_with fail;go_ret;exact⟨ai X.out.any,(gfl _).xt _ _⟩
theorem Ir{W:World}{KB:Nat}{R:List Rt}(hr:Row W KB 57 (gu (R.map prR))){k:Nat}(hk:k<R.length):W.cell? ⟨KB,k*2,none⟩=some (.int .i64 (fW (cZ R k)))/\W.cell? ⟨KB,k*2+1,none⟩=some (.int .i64 (gC (cZ R k)))/\Has W KB:=⟨(um hr hk).1,(um hr hk).2,hr.has⟩
theorem vj{R:List Rt}(h:qm R){k:Nat}(hk:k<R.length):aK (fW (cZ R k))/\aK (gC (cZ R k)):=by
 have e:cZ R k=R[k]:=by simp[cZ,List.getD_eq_getElem?_getD,hk]
 rw[e];cases hq:R[k] with
 |none=>simp[fW,gC,aK]
 |some q=>obtain⟨n,d⟩:=q;have:=dX (h k hk n d hq).1;simp only[fW,gC];unfold aK;omega
theorem PV(c:List Scl)(p:List Sup)(r:Rls)(R:List Rt)(q0 q1 q2 KB:Nat)(ap a1 a2:Option Addr)(u0 u2 u3 u4:Value)(cp c1 c2:Nat)(w:World)
  (h0:w.cell? ⟨q0,0,none⟩=some (.slice (some ⟨KB,0,none⟩) R.length R.length)) (hR:Row w KB 57 (gu (R.map prR))) (h1:Row w q1 29 [.slice a1 r.on.length c1,.slice a2 r.level.length c2]) (h2:Row w q2 105 [u0,.slice ap p.length cp,u2,u3,u4])
  (hp:ag 5 bG w ap p) (hr:RlA w a1 a2 c1 c2 r) (hok:bL p r) (hc:∀x∈c,kU R.length p.length x) (tY:qm R) (hRl:R.length<=16):
  iJ Dg 114 #[.pointer (some ⟨q0,0,none⟩),.pointer (some ⟨q1,0,none⟩),.pointer (some ⟨q2,0,none⟩)] c (fun x=>¬mr p R r x) w:=by
 rintro W v k hk hg ⟨a,ca,rfl,hl,hf,hs,qy,nA⟩;have HC:=hc _ (List.getElem_mem hk);obtain⟨x,hx⟩:∃x,c[k]=x:=⟨_,rfl⟩;rw[hx] at hs hf HC ⊢;obtain⟨k0,k1,s0,s1,po⟩:=HC;obtain⟨kc,GC⟩:=Int.eq_ofNat_of_zero_le k0;obtain⟨ks,hks⟩:=Int.eq_ofNat_of_zero_le s0;have lkc:kc<R.length:=by omega
 have lks:ks<p.length:=by omega
 have lp16:p.length<=16:=p9 hok;have F:=hf;unfold Fit at F;obtain⟨rn,rd,rh⟩:=Ir (hR.gr hg) lkc;have RW:=vj tY lkc;have HN:Hid (cn R x=jK x.points (fW (cZ R kc)) (gC (cZ R kc))):=aa (by unfold cn;rw[GC];rfl);obtain⟨nn,tZ⟩:∃nn,fW (cZ R kc)=nn:=⟨_,rfl⟩;obtain⟨dd,hdd⟩:∃dd,gC (cZ R kc)=dd:=⟨_,rfl⟩;rw[tZ,hdd] at HN RW;rw[tZ] at rn;rw[hdd] at rd;have V1:=aa (fun W' (hW:Gr W W')=>EA x nn dd a ca W' (kK hs hW) hf RW.1 RW.2);rw[GC,hks] at V1;obtain⟨nv,rV⟩:∃nv,(jK x.points nn dd).1=nv:=⟨_,rfl⟩;obtain⟨nb,zB⟩:∃nb,(jK x.points nn dd).2=nb:=⟨_,rfl⟩;rw[rV,zB] at V1;have N1:=aa (show(cn R x).1=nv by rw[HN.out,rV]);have N2:=aa (show(cn R x).2=nb by rw[HN.out,zB]);have c0:=aB hg h0;have ch0:=ae c0;obtain⟨y0,y1,yh⟩:=ce (h1.gr hg);obtain⟨_,z1,_,_,_,zh⟩:=jJ (h2.gr hg);obtain⟨h',n,en,hn,ev⟩:=tJ hok ks lks;have lon:ks<r.on.length:=by have:=hok.2.1;omega
 obtain⟨bo,oo,rfl,co⟩:=(hr.on.giB hg).one ks lon;unfold RB at co;have eon:=bT lon;obtain⟨bv,ov,rfl,cv,_⟩:=(hr.lv.giI hg).one ks h';rw[en] at cv;obtain⟨bp,op,rfl,Oo⟩:=(hp.gr bG.mono hg) ks lks;obtain⟨_,⟨av,cl,cs1,_,_,sL⟩,_,_,_⟩:=Oo;obtain⟨bl,ol,rfl,cL,_⟩:=sL.one n hn;have hho:=ae co;have hhv:=ae cv;have hhp:=ae cs1;have hhl:=ae cL;obtain⟨lv,ke⟩:∃lv,p[ks].levels[n]=lv:=⟨_,rfl⟩;obtain⟨ob,hob⟩:∃ob,r.on[ks]=ob:=⟨_,rfl⟩;rw[ke] at cL;rw[hob] at co;have EV:=aa (show vlt p r ks=lv by rw[ev,ke]);have EO:=aa (show aQ r ks=ob by rw[eon,hob]);have KS:=aa (show x.supply.toNat=ks by rw[hks];rfl);have D0:Hid (mr p R r x↔nb=true/\(0<nv->ob=true/\nv<=lv)):=aa (by unfold mr;rw[N1.out,N2.out,KS.out,EV.out,EO.out]);have WD:=qy;clear tZ hdd rV zB hx qy nA eon ev ke hob RW HN po hf hs hl h0 hR h1 h2 hp hr hok hc tY en hg sL N1 N2 EV EO KS WD;obtain⟨Bq,hBq⟩:∃Bq:Bool,Hid (Bq= @decide (¬mr p R r x) (propDecidable _)):=⟨_,aa rfl⟩;have DD:=aa (show Bq=decide (¬(nb=true/\(0<nv->ob=true/\nv<=lv))) by rw[hBq.out,decide_eq_decide,D0.out]);show Calls Tryz.prog 114 #[_,_,_,_] W (aN W (.bool (@decide (¬mr p R r x) (propDecidable _))));rw[<-hBq.out,GC,hks];clear hBq D0 GC hks k0 k1 s0 s1;cases nb with
 |false=>
  have D:=aa (show true=Bq by rw[DD.out];simp);clear DD;go_enter Tryz.func114,Tryz.ntmps114;go_wp2_with fail;refine ar (by kernel_rfl) (by kernel_rfl) ?_;repeat(go_big_quiet_step (first|(go_at_call 74;with_reducible exact bJ (V1.out _ grr))))
  refine wpQuiet_nil ?_;rintro _ ⟨⟨O,dd9⟩,rfl⟩;go_wp2_with fail
  go_quiet (fail)
  go_wp2_with fail;go_ret;exact⟨ai (id D.out),grr⟩
 |true=>
  by_cases v0:0<nv
  ·cases ob with
   |false=>
    have D:=aa (show true=Bq by rw[DD.out];simp[v0]);clear DD;go_enter Tryz.func114,Tryz.ntmps114;go_wp2_with fail;refine ar (by kernel_rfl) (by kernel_rfl) ?_;repeat(go_big_quiet_step (first|(go_at_call 74;with_reducible exact bJ (V1.out _ grr))))
    refine wpQuiet_nil ?_;rintro _ ⟨⟨O,dd9⟩,rfl⟩;go_wp2_with fail
    go_quiet (fail)
    go_wp2_with fail;go_ret;exact⟨ai (id D.out),grr⟩
   |true=>
    by_cases v1:lv<nv
    ·have D:=aa (show true=Bq by rw[DD.out,eq_comm,decide_eq_true_eq];rintro⟨_,q⟩;have:=(q v0).2;omega);clear DD;go_enter Tryz.func114,Tryz.ntmps114;go_wp2_with fail;refine ar (by kernel_rfl) (by kernel_rfl) ?_;repeat(go_big_quiet_step (first|(go_at_call 74;with_reducible exact bJ (V1.out _ grr))))
     refine wpQuiet_nil ?_;rintro _ ⟨⟨O,dd9⟩,rfl⟩;go_wp2_with fail
     go_quiet (fail)
     go_wp2_with fail;go_ret;exact⟨ai (id D.out),grr⟩
    have D:=aa (show false=Bq by rw[DD.out,eq_comm,decide_eq_false_iff_not,Classical.not_not];exact⟨rfl,fun _=>⟨rfl,by omega⟩⟩);clear DD;have k1:decide (lv<nv)=false:=dfx v1;go_enter Tryz.func114,Tryz.ntmps114;go_wp2_with fail;refine ar (by kernel_rfl) (by kernel_rfl) ?_;repeat(go_big_quiet_step (first|(go_at_call 74;with_reducible exact bJ (V1.out _ grr))))
    refine wpQuiet_nil ?_;rintro _ ⟨⟨O,dd9⟩,rfl⟩;go_wp2_with fail
    go_quiet (fail)
    go_wp2_with fail;go_ret;exact⟨ai (id D.out),grr⟩
  have D:=aa (show false=Bq by rw[DD.out,eq_comm,decide_eq_false_iff_not,Classical.not_not];exact⟨rfl,fun q=>absurd q v0⟩);clear DD;have k0:decide (0<nv)=false:=dfx v0;have k1:nv<=0:=by omega
  go_enter Tryz.func114,Tryz.ntmps114;go_wp2_with fail;refine ar (by kernel_rfl) (by kernel_rfl) ?_;repeat(go_big_quiet_step (first|(go_at_call 74;with_reducible exact bJ (V1.out _ grr))))
  refine wpQuiet_nil ?_;rintro _ ⟨⟨O,dd9⟩,rfl⟩;go_wp2_with fail
  go_quiet (fail)
  go_wp2_with fail;go_ret;exact⟨ai (id D.out),grr⟩
theorem Wy{l:List Clk}{ms:List Lmt}{s:List Int}(h1:fC l ms)(h2:aI l s):Gg l ms s=aG l ms s:=by unfold Gg;rw[dtx h1,dtx ⟨h1.1,h2⟩];rfl
theorem CD(l:List Clk)(p:List Sup)(s:List Int)(r:Rls)(ms:List Lmt)(d:List Drw)(c:List Scl)(al ap am ad ac aS a1 a2:Option Addr)(cl cp cm cd cc cs c1 c2:Nat)(w:World)(h:AS w l p ms d c al ap am ad ac)(hs:ag 1 RI w aS s)(fs:Fit s.length)(hr:RlA w a1 a2 c1 c2 r)(hw:j5 l p s r ms d c):
  Calls Tryz.prog 52 #[.agg #[.slice al l.length cl,.slice ap p.length cp,.slice am ms.length cm,.slice ad d.length cd,.slice ac c.length cc],.slice aS s.length cs,.agg #[.slice a1 r.on.length c1,.slice a2 r.level.length c2]] w (aN w (.bool (decide (j3 l p s r ms d c)))):=by
 obtain⟨sc,so,ro,lo,dok⟩:=hw;have CG:=Wy lo so;have E:=aa h;have S:=aa hs;have RA:=aa hr;obtain⟨W0,hW0⟩:∃W0:World,Hid (W0=(w.alloc (.cells #[.slice al l.length cl,.slice ap p.length cp,.slice am ms.length cm,.slice ad d.length cd,.slice ac c.length cc] 105)).alloc (.cells #[.slice a1 r.on.length c1,.slice a2 r.level.length c2] 29)):=⟨_,aa rfl⟩;have G0:Hid (Gr w W0):=aa (by rw[hW0.out];exact((gfl _).alloc _).alloc _);have R3:Hid (Row W0 w.heap.size 105 [.slice al l.length cl,.slice ap p.length cp,.slice am ms.length cm,.slice ad d.length cd,.slice ac c.length cc]):=aa (by rw[hW0.out];exact(Row.new _ _ _).alloc _);have R5:Hid (Row W0 (w.heap.size+1) 29 [.slice a1 r.on.length c1,.slice a2 r.level.length c2]):=aa (by rw[hW0.out];have:=Row.new (w.alloc (.cells #[.slice al l.length cl,.slice ap p.length cp,.slice am ms.length cm,.slice ad d.length cd,.slice ac c.length cc] 105)) #[.slice a1 r.on.length c1,.slice a2 r.level.length c2] 29;simpa using this);have Z0:Hid (Gr W0 W0):=aa (gfl _);clear h hs hr;go_enter Tryz.func52,Tryz.ntmps52;go_upto_region 1 with fail;rw[<-hW0.out];clear hW0;obtain⟨x0,x1,x2,x3,x4,xh⟩:=jJ R3.out;obtain⟨y0,y1,yh⟩:=ce R5.out;go_wp2_with fail;clear x0 x1 x2 x3 x4 xh y0 y1 yh;refine(JY l ms s al aS am cl cs cm W0 (E.out.clks.gr cY.mono G0.out) (S.out.giI G0.out) (E.out.lmts.gr lQ.mono G0.out) E.out.fl fs E.out.fm (E.out.off.gr G0.out)).mono ?_;rw[CG];rintro e w1 ⟨rfl,bD⟩;have G1:=aa bD;clear bD CG;obtain⟨x0,x1,x2,x3,x4,xh⟩:=jJ (R3.out.gr G1.out);obtain⟨y0,y1,yh⟩:=ce (R5.out.gr G1.out);cases oC:aG l ms s with
 |false=>have D:=aa (show false=decide (j3 l p s r ms d c) from bC (fun q=>by have:=q.1;rw[oC] at this;cases this));clear oC;go_wp2_with fail;go_ret;exact⟨ai D.out,G0.out.trans G1.out⟩
 |true=>
  have C1:=aa oC;clear oC;go_wp2_with fail;clear x0 x1 x2 x3 x4 xh y0 y1 yh;refine(rv p r d ap a1 a2 ad cp c1 c2 cd w1 (E.out.sups.gr bG.mono (G0.out.trans G1.out)) E.out.fp (RA.out.on.giB (G0.out.trans G1.out)) (RA.out.lv.giI (G0.out.trans G1.out)) (E.out.drws.gr cX.mono (G0.out.trans G1.out)) RA.out.f1 RA.out.f2 E.out.fd).mono ?_;rintro e w2 ⟨rfl,bY⟩;have G2:=aa (G1.out.trans bY);clear bY;obtain⟨x0,x1,x2,x3,x4,xh⟩:=jJ (R3.out.gr G2.out);obtain⟨y0,y1,yh⟩:=ce (R5.out.gr G2.out);by_cases e2:bi p r d
  ·rw[dtx e2];have M2:=aa e2;clear e2;go_wp2_with fail;clear x0 x1 x2 x3 x4 xh y0 y1 yh;refine(zm l s al aS cl cs w2 (E.out.clks.gr cY.mono (G0.out.trans G2.out)) (S.out.giI (G0.out.trans G2.out)) lo.1 so (E.out.off.gr (G0.out.trans G2.out))).mono ?_;rintro e w3 ⟨RB,rfl,rt,kR,cG⟩;have G3:=aa (G2.out.trans cG);have RR:=aa rt;clear cG rt kR;go_upto_region 4 with fail;have gO:(rts l s).length=l.length:=kt l s so.1.symm;have Xo:l.length<=16:=cg (bm lo.1).1;obtain⟨N4,hN4⟩:∃N4:Nat,Hid (w3.heap.size=N4):=⟨_,aa rfl⟩;obtain⟨W4,hW4⟩:∃W4:World,Hid (W4=w3.alloc (.cells #[.slice (some ⟨RB,0,none⟩) l.length l.length] 63)):=⟨_,aa rfl⟩;rw[<-hW4.out,hN4.out];have H4:Hid (Gr w3 W4):=aa (by rw[hW4.out];exact(gfl _).alloc _);have R7:Hid (Row W4 N4 63 [.slice (some ⟨RB,0,none⟩) l.length l.length]):=aa (by rw[hW4.out,<-hN4.out];exact Row.new _ _ _);have G4:=aa (G3.out.trans H4.out);obtain⟨q7,qh7⟩:=row1 R7.out;obtain⟨x0,x1,x2,x3,x4,xh⟩:=jJ (R3.out.gr G4.out);have V:=aa (Dq N4 (w.heap.size+1) w.heap.size c ac cc _ W4 (uB E.out.scls (G0.out.trans G4.out)) E.out.fc (PV c p r (rts l s) N4 (w.heap.size+1) w.heap.size RB ap a1 a2 _ _ _ _ cp c1 c2 W4 (by rw[gO];exact q7) (RR.out.gr H4.out) (R5.out.gr G4.out) (R3.out.gr G4.out) (E.out.sups.gr bG.mono (G0.out.trans G4.out)) (RA.out.gr (G0.out.trans G4.out)) ro (by rw[gO];exact sc.2.2.2) (pY lo.1 so) (by omega)));clear hW4 hN4 q7 qh7;go_wp2_with fail;clear x0 x1 x2 x3 x4 xh;refine V.out.mono ?_;rintro e w5 ⟨rfl,jl⟩;have G5:=aa (G0.out.trans (G4.out.trans jl));clear jl V;by_cases e4:lE (fun x=>¬mr p (rts l s) r x) c
   ·rw[dtx e4];have D:=aa (show false=decide (j3 l p s r ms d c) from bC (fun q=>by obtain⟨k,hk,hq⟩:=e4;exact hq (q.2.2 _ (List.getElem_mem hk))));clear e4;go_wp2_with fail;go_ret;exact⟨ai D.out,G5.out⟩
   rw[dfx e4];have D:=aa (show true=decide (j3 l p s r ms d c) from tB ⟨C1.out,M2.out,fun x hx=>Classical.byContradiction fun q=>e4 (by obtain⟨k,hk,rfl⟩:=List.getElem_of_mem hx;exact⟨k,hk,q⟩)⟩);clear e4;go_wp2_with fail;go_ret;exact⟨ai D.out,G5.out⟩
  rw[dfx e2];have D:=aa (show false=decide (j3 l p s r ms d c) from bC (fun q=>e2 q.2.1));clear e2;go_wp2_with fail;go_ret;exact⟨ai D.out,G0.out.trans G2.out⟩
theorem Br:(Tryz.prog.info? 128).map (fun i=>(i.zero,i.size,i.bytes))=some (some (.agg #[.int .i64 0,.int .i64 0,.int .i64 0,.int .i64 0]),4,32):=by kernel_rfl
def eL(x:Drw):List Value:= [.int .i64 x.supply,.int .i64 x.low,.int .i64 x.high,.int .i64 x.load]
theorem zo(x:Drw):(eL x).length=4:=rfl
theorem yp(t:Drw):∀u∈eL t,u.oneCell'=true:=by intro u hu;simp only[eL,List.mem_cons,List.not_mem_nil,or_false] at hu;rcases hu with rfl|rfl|rfl|rfl<;>rfl
theorem QW(ao:Option Addr)(l:List Drw):tx (fun W=>ag 4 cX W ao l):=fun _ _ hg h=>bP h hg
theorem QP(a:Addr)(v:Value):tx (fun W=>W.cell? a=some v):=fun _ _ hg h=>by cases a;exact aB hg h
theorem xy{b len:Nat}{w:World}{bs os:Nat}{l:List Sup}(h:gP b w (fun W=>ag 5 bG W (some ⟨bs,os,none⟩) l))(ht:Tp w b len){k:Nat}(hk:k<l.length){av:Option Addr}{cv:Nat}(c:w.cell? ⟨bs,os+k*5+1,none⟩=some (.slice av l[k].levels.length cv)):
  gP b w (fun W=>ag 1 RI W av l[k].levels)/\gP b w (fun W=>W.cell? ⟨bs,os+k*5+1,none⟩=some (.slice av l[k].levels.length cv)):=by
 have key:∀p:Int,(w.setCell ⟨b,1,none⟩ (.int .i64 p)).cell? ⟨bs,os+k*5+1,none⟩=some (.slice av l[k].levels.length cv)/\ag 1 RI (w.setCell ⟨b,1,none⟩ (.int .i64 p)) av l[k].levels:=by
  intro p;obtain⟨b',o',e,_,⟨ao',cp',hc,_,_,hs⟩,_⟩:=h p k hk;cases e
  have bS:(⟨b,1,none⟩:Addr)≠⟨bs,os+k*5+1,none⟩:=by intro e;rw[<-e] at hc c;rw[World.cell?_setCell_same _ _ _ c] at hc;cases hc
  have h2:(w.setCell ⟨b,1,none⟩ (.int .i64 p)).cell? ⟨bs,os+k*5+1,none⟩=some (.slice av l[k].levels.length cv):=by
   rw[World.cell?_setCell_other]
   ·exact c
   exact bS
  rw[h2] at hc;cases hc
  exact⟨h2,hs⟩
 exact⟨fun p=>(key p).2,fun p=>(key p).1⟩
theorem uG{base:Nat}{w:World}{v:Value}{ds:List Drw}(h:w.ownsRow base 128 4 v ds.length (ds.flatMap eL))(hw:∀x∈ds,aK x.supply/\aK x.low/\aK x.high/\aK x.load):
  ∃a c,v= .slice a ds.length c/\ds.length<=c/\ag 4 cX w a ds:=by
 rcases Nat.eq_zero_or_pos ds.length with e|e
 ·have:ds= []:=List.eq_nil_of_length_eq_zero e;subst this;obtain⟨a,c,rfl⟩:=be h;exact⟨a,c,rfl,Nat.zero_le _,ag.nil _ _ _ _⟩
 obtain⟨g,cap,rfl,hc,hb,lG⟩:=fM h e;refine⟨_,cap,rfl,hc,fun k hk=>⟨g,0,rfl,?_⟩⟩;have key:∀j,(hj:j<4)->w.cell? ⟨g,0+k*4+j,none⟩=(eL ds[k])[j]?:=fun j hj=>by rw[<-nJ eL 4 zo ds k j hk hj,Nat.zero_add];exact lG _ (by omega)
 obtain⟨h1,h2,h3,h4⟩:=hw ds[k] (List.getElem_mem hk);exact⟨⟨key 0 (by omega),h1⟩,⟨key 1 (by omega),h2⟩,⟨key 2 (by omega),h3⟩,⟨key 3 (by omega),h4⟩⟩
theorem wX(w:World)(x0 x1 x2 x3:Value)(t:TypeId):∀j u,[x0,x1,x2,x3][j]?=some u->(w.alloc (.cells #[x0,x1,x2,x3] t)).cell? ((⟨w.heap.size,0,none⟩:Addr).add j)=some u:=by
 intro j u hu;obtain⟨hj,hu⟩:=List.getElem?_eq_some_iff.1 hu;have:(⟨w.heap.size,0,none⟩:Addr).add j=⟨w.heap.size,j,none⟩:=by unfold Addr.add;split<;>simp_all
 rw[this,(Row.new w #[x0,x1,x2,x3] t).cell j hj,<-hu]
def TN(w:World)(v:Value)(s:List Int):Prop:=∃a c,v= .slice a s.length c/\ag 1 RI w a s
theorem Eb{w:World}{ao:Option Addr}{ss:List (List Int)}(h:ag 1 nP w ao ss){k:Nat}(hk:k<ss.length):∃b o a c,ao=some ⟨b,o,none⟩/\w.cell? ⟨b,o+k,none⟩=some (.slice a ss[k].length c)/\ag 1 RI w a ss[k]:=by obtain⟨b,o,e,a,c,c0,hs⟩:=h k hk;rw[Nat.mul_one] at c0;exact⟨b,o,a,c,e,c0,hs⟩
theorem Lp(q0:Nat)(l:List (List Int))(ao:Option Addr)(cap:Nat)(p:(List Int)->Prop)(w:World)(h:ag 1 nP w ao l)(hf:Fit l.length)(hp:iJ TN 71 #[.pointer (some ⟨q0,0,none⟩)] l p w):
  Calls Tryz.prog 136 #[.slice ao l.length cap,.func (.func 71) #[] #[.pointer (some ⟨q0,0,none⟩)]] w (mW p l w):=by
 unfold Fit at hf;have H:=aa h;have HP:=aa hp;clear h hp;go_enter Tryz.func136,Tryz.ntmps136;go_wp2;go_loopw [8] (fun i wr=>∃k:Nat,k<=l.length/\i= .int .i64 k/\(∀j (hj:j<k) (lA:j<l.length),¬p l[j])/\Gr w wr) (fun i _=>l.length-(intOf i).toNat);case atStart=>exact⟨0,Nat.zero_le _,rfl,fun j h=>absurd h (by omega),gfl _⟩
 case round=>
  obtain⟨k,hk,rfl,aH,hg⟩:=hrel;have HA:=aa aH;have HG:=aa hg;clear aH hg;by_cases aA:k<l.length
  ·obtain⟨b,o,a2,c2,rfl,c0,zG⟩:=Eb (H.out.gr nP.mono HG.out) aA;have ch:=ae c0;have cr:=HP.out wr (.slice a2 l[k].length c2) k aA HG.out ⟨a2,c2,rfl,zG⟩;by_cases hq:p l[k]
   ·rw[dtx hq] at cr;have Q:=aa hq;clear hq;go_wp2_with fail;refine cr.mono ?_;rintro e w' ⟨rfl,O,d,rfl⟩;go_wp2_with fail;go_ret;exact⟨_,rfl,.inr ⟨k,aA,rfl,Q.out,fun j hj=>HA.out j hj (by omega)⟩,HG.out.xt _ _⟩
   rw[dfx hq] at cr;have Q:=aa hq;clear hq;go_wp2_with fail;refine cr.mono ?_;rintro e w' ⟨rfl,O,d,rfl⟩;go_wp2_with fail;go_roundw;case rel=>
    refine⟨k+1,by omega,by go_num,fun j hj lA=>?_,HG.out.xt _ _⟩;by_cases e:j=k
    ·subst e;exact Q.out
    exact HA.out j (by omega) lA
   case measure=>simp[intOf];omega
  go_wp2;go_ret;exact⟨_,rfl,.inl ⟨rfl,fun j hj=>HA.out j (by omega) hj⟩,HG.out⟩
theorem EG(q0:Nat)(l:List (List Int))(ao:Option Addr)(cap:Nat)(p:(List Int)->Prop)(w:World)(h:ag 1 nP w ao l)(hf:Fit l.length)(hp:iJ TN 71 #[.pointer (some ⟨q0,0,none⟩)] l p w):
  Calls Tryz.prog 70 #[.slice ao l.length cap,.func (.func 71) #[] #[.pointer (some ⟨q0,0,none⟩)]] w (aN w (.bool (decide (lE p l)))):=by
 have H:=aa h;have HP:=aa hp;have HF:=aa hf;clear h hp hf;go_enter Tryz.func70,Tryz.ntmps70;go_wp2_with fail;refine(Lp q0 l ao cap p _ H.out HF.out HP.out).mono ?_;rintro e w' ⟨x,rfl,hx,O,d,rfl⟩;have X:=aa hx;clear hx;go_wp2_with fail;go_ret;exact⟨ai X.out.any,(gfl _).xt _ _⟩
theorem Pu(l:List Clk)(ss:List (List Int))(q0:Nat)(al:Option Addr)(cl:Nat)(w:World)(h0:w.cell? ⟨q0,0,none⟩=some (.slice al l.length cl))(hl:ag 5 cY w al l)(hf:Fit l.length)(hc:bA l=0)(hs:∀s∈ss,Fit s.length):
  iJ TN 71 #[.pointer (some ⟨q0,0,none⟩)] ss (fun s=>¬aI l s) w:=by
 rintro W v k hk hg ⟨a,ca,rfl,hs1⟩;have c0:=aB hg h0;have ch0:=ae c0;obtain⟨x,hx⟩:∃x,ss[k]=x:=⟨_,rfl⟩;have FX:=hs _ (List.getElem_mem hk);rw[hx] at hs1 FX ⊢;have V:=aa (js l x al a cl ca W (hl.gr cY.mono hg) hs1 hf FX);obtain⟨bq,hbq⟩:∃bq:Bool,Hid (bq=decide (bA l=0/\aI l x)):=⟨_,aa rfl⟩;rw[<-hbq.out] at V;have D:Hid ((!bq)= @decide (¬aI l x) (propDecidable _)):=aa (by
  by_cases q:aI l x
  ·rw[hbq.out,dtx ⟨hc,q⟩];exact DG (fun r=>r q)
  rw[hbq.out,dfx (fun r=>q r.2)];exact wQ q)
 clear hbq hx h0 hl hs hs1;show Calls Tryz.prog 71 #[_,_] W (aN W (.bool (@decide (¬aI l x) (propDecidable _))));rw[<-D.out];clear D;go_enter Tryz.func71,Tryz.ntmps71;go_wp2_with fail;refine V.out.mono ?_;rintro e w' ⟨rfl,O,d,rfl⟩;go_wp2_with fail;go_ret;exact⟨rfl,(gfl _).xt _ _⟩
theorem Ia{w:World}{b o:Nat}{s:Option Nat}{d:List Drw}(h:ag 4 cX w (some ⟨b,o,s⟩) d):∀j u,(d.flatMap eL)[j]?=some u->w.cell? ((⟨b,o,s⟩:Addr).add j)=some u:=by
 intro j u hj;have gO:(d.flatMap eL).length=d.length*4:=by
  clear h hj;induction d with
  |nil=>rfl
  |cons x d ih=>rw[List.flatMap_cons,List.length_append,ih,zo,List.length_cons];omega
 have lI:j<d.length*4:=by rw[<-gO];exact(List.getElem?_eq_some_iff.1 hj).1
 have hk:j/4<d.length:=by omega
 have hr:j%4<4:=Nat.mod_lt _ (by omega);have e:=nJ eL 4 zo d (j/4) (j%4) hk hr;rw[show j/4*4+j%4=j by omega,hj] at e;obtain⟨b',o',e',⟨c0,_⟩,⟨c1,_⟩,⟨c2,_⟩,⟨c3,_⟩⟩:=h (j/4) hk;cases e'
 rw[Addr.add_lit];obtain q|q|q|q:j%4=0∨j%4=1∨j%4=2∨j%4=3:=by omega
 ·rw[q] at e;simp[eL] at e;rw[e,<-c0];congr 2;omega
 ·rw[q] at e;simp[eL] at e;rw[e,<-c1];congr 2;omega
 ·rw[q] at e;simp[eL] at e;rw[e,<-c2];congr 2;omega
 rw[q] at e;simp[eL] at e;rw[e,<-c3];congr 2;omega
theorem NK(d:List Drw):∀u∈d.flatMap eL,u.oneCell'=true:=fun u hu=>by obtain⟨x,_,hx⟩:=List.mem_flatMap.1 hu;exact yp x u hx
theorem Nc(d:List Drw):(d.flatMap eL).length=d.length*4:=by
 induction d with
 |nil=>rfl
 |cons x d ih=>rw[List.flatMap_cons,List.length_append,ih,zo,List.length_cons];omega
def Uj(w:World)(d:List Drw)(e:Ending)(w':World):Prop:=∃v,e= .returned v/\w'.ownsRow w.heap.size 128 4 v d.length (d.flatMap eL)/\Gr w w'
theorem Qd(d:List Drw)(ao:Option Addr)(cap:Nat)(w:World)(h:ag 4 cX w ao d)(hf:d.length<=1000):
  Calls Tryz.prog 75 #[.slice ao d.length cap] w (Uj w d):=by
 have H:=aa h;clear h;obtain⟨i0,hi,dt,da,cN⟩:=info_parts Br;cases ao with
 |none=>have:=Gm H.out;subst this;have he:∀w:World,(binOp .eql 31 (.slice none 0 cap) (.slice none 0 0)).run Tryz.prog w= .ok (.bool true) w:=fun _=>rfl;simp only[List.length_nil];go_enter Tryz.func75,Tryz.ntmps75;go_wp2_with fail;go_ret;exact⟨_,rfl,World.ownsRow_nil w _ _ _,gfl _⟩
 |some a=>obtain⟨b,o,s⟩:=a;have he:∀w:World,(binOp .eql 31 (.slice (some ⟨b,o,s⟩) d.length cap) (.slice none 0 0)).run Tryz.prog w= .ok (.bool false) w:=fun _=>rfl;go_enter Tryz.func75,Tryz.ntmps75;go_wp2_with (at_builtin;refine wpList_append_own _ rfl _ _ 31 rfl w.heap.size 128 i0 (.agg #[.int .i64 0,.int .i64 0,.int .i64 0,.int .i64 0]) 4 32 Tryz.underlying31 hi dt da cN rfl (by decide) _ 0 [] rfl (World.ownsRow_made w #[] 0 (Nat.le_refl _) (by simp) rfl) ⟨b,o,s⟩ d.length cap (d.flatMap eL) rfl (Nc d) (Ia (H.out.gr cX.mono ((gfl _).alloc _))) (NK d) (by unfold maxLen;omega) (by omega) (by simp) ?_;intro v' w1 bI aE eJ);rw[Nat.zero_add,List.nil_append] at bI;go_ret;exact⟨_,rfl,bI,((gfl w).alloc _).grown aE (fun k e=>by cases e;exact Nat.le_refl _)⟩
theorem OJ{w:World}{base e size n B T:Nat}{v:Value}{xs vs:List Value}(h:w.ownsRow base e size v n xs)(hr:Row w B T vs)(hT:T≠e):v.ownBlock≠some B:=by
 obtain⟨_,⟨rfl,_⟩|⟨g,cap,cur,rfl,hb,hg,_⟩⟩:=h
 ·intro q;cases q
 intro q;have:g=B:=by simpa [Value.ownBlock] using q
 subst this;have:=hg.symm.trans hr;simp at this;exact hT this.2.symm
structure Vb(W0 wr:World)(bs:Nat)(Nz:Value)(ds:List Drw)(jw:Value)(d:Array Bool)(w:World):Prop where
 gr:Gr W0 w
 sz:wr.heap.size<=w.heap.size
 a:d.getD 10 false=false->jw=Nz
 o:d.getD 9 false=false->w.ownsRow bs 128 4 Nz ds.length (ds.flatMap eL)
 oth:∀B T vs,T≠128->Row wr B T vs->Row w B T vs
 old:d.getD 9 false=false->Gr wr w
theorem Vb.step{W0 wr:World}{bs:Nat}{Nz:Value}{ds:List Drw}{jw:Value}{d:Array Bool}{w w2:World}{i:Nat}(h:Vb W0 wr bs Nz ds jw d w)(hg:Gr w w2)(h9:i≠9)(Xy:i≠10):Vb W0 wr bs Nz ds jw (d.setIfInBounds i true) w2 where
 gr:=h.gr.trans hg
 sz:=Nat.le_trans h.sz hg.size
 a:=fun q=>h.a (by rw[getD_set_ne false Xy] at q;exact q)
 o:=fun q=>Gr.owns (h.o (by rw[getD_set_ne false h9] at q;exact q)) hg
 oth:=fun B T vs ht hr=>(h.oth B T vs ht hr).gr hg
 old:=fun q=>(h.old (by rw[getD_set_ne false h9] at q;exact q)).trans hg
def rzF(W0 wr:World)(bs:Nat)(a7:Option Addr)(c7:Nat)(ds:List Drw)(sp v:Int)(gs:List Int)(n k Bg Fx:Nat)(kc:Int)(pv:Value)(jw pM k9 lj k6 lD li lr k8 ib gD:Value)(d:Array Bool)(w:World):Prop:=
 Vb W0 wr bs (.slice a7 ds.length c7) ds jw d w/\(d.getD 0 false=true->pM= .slice a7 ds.length c7)/\
 (d.getD 1 false=true->k9= .pointer (some ⟨Fx,1,none⟩))/\
 (d.getD 2 false=true->lj= .int .i64 sp)/\
 (d.getD 3 false=true->k6= .slice (some ⟨Bg,0,none⟩) n n)/\
 (d.getD 4 false=true->lD= .int .i64 (k:Int))/\
 (d.getD 5 false=true->li= .pointer (some ⟨Bg,k,none⟩))/\
 (d.getD 6 false=true->lr= .int .i64 v)/\
 (d.getD 7 false=true->(k8= .agg #[.int .i64 sp,.int .i64 v,.int .i64 5000,.int .i64 0]))/\
 (d.getD 8 false=true->(∃B,ib= .slice (some ⟨B,0,none⟩) 1 1/\wr.heap.size<=B/\Row w B 128 [.int .i64 sp,.int .i64 v,.int .i64 5000,.int .i64 0]))/\
 (d.getD 9 false=true->((d.getD 0 false=true/\d.getD 8 false=true)/\w.ownsRow bs 128 4 gD (ds.length+1) ((ds++ [(⟨sp,v,5000,0⟩:Drw)]).flatMap eL)))/\
 (d.getD 10 false=true->(d.getD 0 false=true/\d.getD 9 false=true/\jw=gD))
def rzA(n k Bg Fx:Nat)(jw pM k9 lj k6 lD li lr k8 ib gD s0 s1 s2 s3 s4 s5 s6 s7 s8 s9 fQ dR cI cJ dc dg dk di cK de dB dD dv dC du eH eQ eW eO eI ec dP dL dE dJ dK dO dM dN eg eY eT eV eF eN fG fH fJ fL gK gi gd eZ gY g9 ii hO g7 gZ g8 gV gT gS jf iQ iX ja jh jF jE jD iO iT je iP i9 iV ji iS jg iZ jd i8 i7 iM iU iY iW iN i6 jG jA jH jy jz mt mx mE mD mp:Value):Act:={tmps:= #[s0,s1,s2,s3,s4,s5,s6,s7,s8,s9,fQ,dR,.slice (some ⟨Bg,0,none⟩) n n,cI,cJ,dc,dg,dk,di,cK,de,jw,.int .i64 (k:Int),.pointer (some ⟨Fx,0,none⟩),dB,dD,dv,dC,du,eH,eQ,eW,eO,eI,ec,dP,dL,dE,dJ,dK,dO,dM,dN,eg,eY,eT,eV,eF,eN,fG,fH,fJ,fL,gK,gi,gd,eZ,gY,g9,ii,hO,g7,gZ,g8,gV,gT,gS,jf,iQ,iX,ja,jh,jF,jE,jD,iO,iT,je,iP,i9,iV,ji,iS,jg,iZ,jd,i8,i7,iM,iU,iY,iW,iN,i6,jG,jA,jH,jy,jz,pM,k9,lj,k6,lD,li,lr,k8,ib,gD,mt,mx,mE,mD,mp],defers:= []}
theorem rz{Q:Exit->Act->World->Prop}{W0 wr:World}{bs:Nat}{a7:Option Addr}{c7:Nat}{ds:List Drw}{sp v:Int}{gs:List Int}{n k Bg Fx:Nat}{kc:Int}{pv:Value}{s0 s1 s2 s3 s4 s5 s6 s7 s8 s9 fQ dR cI cJ dc dg dk di cK de dB dD dv dC du eH eQ eW eO eI ec dP dL dE dJ dK dO dM dN eg eY eT eV eF eN fG fH fJ fL gK gi gd eZ gY g9 ii hO g7 gZ g8 gV gT gS jf iQ iX ja jh jF jE jD iO iT je iP i9 iV ji iS jg iZ jd i8 i7 iM iU iY iW iN i6 jG jA jH jy jz j8 gU ia ic ie gW gX ig iI iD mt mx mE mD mp:Value}(tY:Gr W0 wr)(hbs:W0.heap.size<=bs/\bs<=wr.heap.size)(ho:wr.ownsRow bs 128 4 (.slice a7 ds.length c7) ds.length (ds.flatMap eL))(hdl:ds.length<=64)(Vi:Row wr Fx 53 [.int .i64 kc,.int .i64 sp,pv])(Cg:Row wr Bg 3 (an gs))(hkn:k<n)(gI:∃q:k<gs.length,gs[k]=v)
  (h':∀pM k9 lj k6 lD li lr k8 ib gD wx,Gr W0 wx->wx.ownsRow bs 128 4 gD (ds.length+1) ((ds++ [(⟨sp,v,5000,0⟩:Drw)]).flatMap eL)->(∀B T vs,T≠128->Row wr B T vs->Row wx B T vs)->bs<=wx.heap.size->Q .normal (rzA n k Bg Fx gD pM k9 lj k6 lD li lr k8 ib gD s0 s1 s2 s3 s4 s5 s6 s7 s8 s9 fQ dR cI cJ dc dg dk di cK de dB dD dv dC du eH eQ eW eO eI ec dP dL dE dJ dK dO dM dN eg eY eT eV eF eN fG fH fJ fL gK gi gd eZ gY g9 ii hO g7 gZ g8 gV gT gS jf iQ iX ja jh jF jE jD iO iT je iP i9 iV ji iS jg iZ jd i8 i7 iM iU iY iW iN i6 jG jA jH jy jz mt mx mE mD mp) wx):
  (Code.region 22 (fr 22 Tryz.f18) true).wp Tryz.prog Q {tmps:= #[s0,s1,s2,s3,s4,s5,s6,s7,s8,s9,fQ,dR,.slice (some ⟨Bg,0,none⟩) n n,cI,cJ,dc,dg,dk,di,cK,de,.slice a7 ds.length c7,.int .i64 (k:Int),.pointer (some ⟨Fx,0,none⟩),dB,dD,dv,dC,du,eH,eQ,eW,eO,eI,ec,dP,dL,dE,dJ,dK,dO,dM,dN,eg,eY,eT,eV,eF,eN,fG,fH,fJ,fL,gK,gi,gd,eZ,gY,g9,ii,hO,g7,gZ,g8,gV,gT,gS,jf,iQ,iX,ja,jh,jF,jE,jD,iO,iT,je,iP,i9,iV,ji,iS,jg,iZ,jd,i8,i7,iM,iU,iY,iW,iN,i6,jG,jA,jH,jy,jz,j8,gU,ia,ic,ie,gW,gX,ig,iI,iD,mt,mx,mE,mD,mp],defers:= []} wr:=by
 have LT1:PLift (∀k,(Value.slice a7 ds.length c7).ownBlock=some k->k<wr.heap.size):=PLift.up (fun k e=>(nj ho k e).2);obtain⟨i0,hi,dt,da,cN⟩:=info_parts Br;have XO:=PLift.up Vi;have RG:=PLift.up Cg;have HKL:PLift (∃q:k<gs.length,gs[k]=v):=PLift.up gI;have HBS:=PLift.up hbs;have HDL:=PLift.up hdl;clear Vi Cg gI hbs hdl;simp only[fr,Tryz.f18,gM,Option.bind_some,Option.getD_some,Nat.beq,cond_true,cond_false];refine dW (fun done a w=>∃jw pM k9 lj k6 lD li lr k8 ib gD,a=rzA n k Bg Fx jw pM k9 lj k6 lD li lr k8 ib gD s0 s1 s2 s3 s4 s5 s6 s7 s8 s9 fQ dR cI cJ dc dg dk di cK de dB dD dv dC du eH eQ eW eO eI ec dP dL dE dJ dK dO dM dN eg eY eT eV eF eN fG fH fJ fL gK gi gd eZ gY g9 ii hO g7 gZ g8 gV gT gS jf iQ iX ja jh jF jE jD iO iT je iP i9 iV ji iS jg iZ jd i8 i7 iM iU iY iW iN i6 jG jA jH jy jz mt mx mE mD mp/\rzF W0 wr bs a7 c7 ds sp v gs n k Bg Fx kc pv jw pM k9 lj k6 lD li lr k8 ib gD done w) (by kernel_rfl) (by kernel_rfl) ?_ ⟨?_,?_,?_,?_,?_,?_,?_,?_,?_,?_,?_,trivial⟩ ?_
 ·exact⟨.slice a7 ds.length c7,j8,gU,ia,ic,ie,gW,gX,ig,iI,iD,rfl,⟨tY.drew,Nat.le_refl _,fun _=>rfl,fun _=>Gr.owns ho ((gfl _).drew),fun _ _ _ _ q=>q,fun _=>(gfl _).drew⟩,fun q=>absurd q (by decide),fun q=>absurd q (by decide),fun q=>absurd q (by decide),fun q=>absurd q (by decide),fun q=>absurd q (by decide),fun q=>absurd q (by decide),fun q=>absurd q (by decide),fun q=>absurd q (by decide),fun q=>absurd q (by decide),fun q=>absurd q (by decide),fun q=>absurd q (by decide)⟩
 rotate_right
 ·rintro done a w aH ⟨jw,pM,k9,lj,k6,lD,li,lr,k8,ib,gD,rfl,gw,f0,f1,f2,f3,f4,f5,f6,f7,f8,f9,f10⟩;obtain⟨_,_,rfl⟩:=f10 (aH 10 (by decide));exact h' _ _ _ _ _ _ _ _ _ _ w gw.gr (f9 (aH 9 (by decide))).2 gw.oth (by have:=gw.sz;have:=HBS.down.2;omega)
 all_goals(rintro done a w iB fD aO ⟨jw,pM,k9,lj,k6,lD,li,lr,k8,ib,gD,rfl,gw,f0,f1,f2,f3,f4,f5,f6,f7,f8,f9,f10⟩ K hK;have hn:=nd fD;have HK:=PLift.up hK;clear hK)
 ·have YH:done.getD 10 false=false:=by
   cases e:done.getD 10 false with
   |false=>rfl
   |true=>exact absurd (f10 e).1 hn
  obtain rfl:=gw.a YH;simp only[rzA];go_simp;have gg:=gfl w;refine HK.down _ _ ⟨_,_,_,_,_,_,_,_,_,_,_,rfl,gw.step gg (by decide) (by decide),fun _=>rfl,kp f1,kp f2,kp f3,kp f4,kp f5,kp f6,kp f7,ku f8,fun q=>absurd (f9 (aj q (by decide))).1.1 hn,fun q=>absurd (f10 (aj q (by decide))).1 hn⟩
 ·have Vi:=(gw.oth _ _ _ (by decide) XO.down).has;simp only[rzA];go_simp;have gg:=gfl w;refine HK.down _ _ ⟨_,_,_,_,_,_,_,_,_,_,_,rfl,gw.step gg (by decide) (by decide),kp f0,fun _=>rfl,kp f2,kp f3,kp f4,kp f5,kp f6,kp f7,ku f8,fun q=>(let h:=f9 (aj q (by decide));⟨⟨ak h.1.1,ak h.1.2⟩,Gr.owns h.2 gg⟩),fun q=>(let h:=f10 (aj q (by decide));⟨ak h.1,ak h.2.1,h.2.2⟩)⟩
 ·have d1:=aO 1 (by kernel_rfl);obtain rfl:=f1 d1;have Xx:=gw.oth _ _ _ (by decide) XO.down;have c1:=Xx.cell 1 (by simp);have Vi:=Xx.has;simp only[List.getElem_cons_zero,List.getElem_cons_succ] at c1;clear Xx;clear d1;simp only[rzA];go_simp;have gg:=gfl w;refine HK.down _ _ ⟨_,_,_,_,_,_,_,_,_,_,_,rfl,gw.step gg (by decide) (by decide),kp f0,kp f1,fun _=>rfl,kp f3,kp f4,kp f5,kp f6,kp f7,ku f8,fun q=>(let h:=f9 (aj q (by decide));⟨⟨ak h.1.1,ak h.1.2⟩,Gr.owns h.2 gg⟩),fun q=>(let h:=f10 (aj q (by decide));⟨ak h.1,ak h.2.1,h.2.2⟩)⟩
 ·simp only[rzA];go_simp;have gg:=gfl w;refine HK.down _ _ ⟨_,_,_,_,_,_,_,_,_,_,_,rfl,gw.step gg (by decide) (by decide),kp f0,kp f1,kp f2,fun _=>rfl,kp f4,kp f5,kp f6,kp f7,ku f8,fun q=>(let h:=f9 (aj q (by decide));⟨⟨ak h.1.1,ak h.1.2⟩,Gr.owns h.2 gg⟩),fun q=>(let h:=f10 (aj q (by decide));⟨ak h.1,ak h.2.1,h.2.2⟩)⟩
 ·simp only[rzA];go_simp;have gg:=gfl w;refine HK.down _ _ ⟨_,_,_,_,_,_,_,_,_,_,_,rfl,gw.step gg (by decide) (by decide),kp f0,kp f1,kp f2,kp f3,fun _=>rfl,kp f5,kp f6,kp f7,ku f8,fun q=>(let h:=f9 (aj q (by decide));⟨⟨ak h.1.1,ak h.1.2⟩,Gr.owns h.2 gg⟩),fun q=>(let h:=f10 (aj q (by decide));⟨ak h.1,ak h.2.1,h.2.2⟩)⟩
 ·have d3:=aO 3 (by kernel_rfl);have d4:=aO 4 (by kernel_rfl);obtain rfl:=f3 d3;obtain rfl:=f4 d4;have k2:(k:Int)<n:=by omega
  have k0:(0:Int)<=k:=by omega
  clear d3 d4;simp only[rzA];go_simp;have gg:=gfl w;refine HK.down _ _ ⟨_,_,_,_,_,_,_,_,_,_,_,rfl,gw.step gg (by decide) (by decide),kp f0,kp f1,kp f2,kp f3,kp f4,fun _=>rfl,kp f6,kp f7,ku f8,fun q=>(let h:=f9 (aj q (by decide));⟨⟨ak h.1.1,ak h.1.2⟩,Gr.owns h.2 gg⟩),fun q=>(let h:=f10 (aj q (by decide));⟨ak h.1,ak h.2.1,h.2.2⟩)⟩
 ·have d5:=aO 5 (by kernel_rfl);obtain rfl:=f5 d5;have rg:=gw.oth _ _ _ (by decide) RG.down;have ck:=rg.iat k HKL.down.choose;rw[HKL.down.choose_spec] at ck;have gh:=rg.has;clear rg;clear d5;simp only[rzA];go_simp;have gg:=gfl w;refine HK.down _ _ ⟨_,_,_,_,_,_,_,_,_,_,_,rfl,gw.step gg (by decide) (by decide),kp f0,kp f1,kp f2,kp f3,kp f4,kp f5,fun _=>rfl,kp f7,ku f8,fun q=>(let h:=f9 (aj q (by decide));⟨⟨ak h.1.1,ak h.1.2⟩,Gr.owns h.2 gg⟩),fun q=>(let h:=f10 (aj q (by decide));⟨ak h.1,ak h.2.1,h.2.2⟩)⟩
 ·have d2:=aO 2 (by kernel_rfl);have d6:=aO 6 (by kernel_rfl);obtain rfl:=f2 d2;obtain rfl:=f6 d6;clear d2 d6;simp only[rzA];go_simp;have gg:=gfl w;refine HK.down _ _ ⟨_,_,_,_,_,_,_,_,_,_,_,rfl,gw.step gg (by decide) (by decide),kp f0,kp f1,kp f2,kp f3,kp f4,kp f5,kp f6,fun _=>rfl,ku f8,fun q=>(let h:=f9 (aj q (by decide));⟨⟨ak h.1.1,ak h.1.2⟩,Gr.owns h.2 gg⟩),fun q=>(let h:=f10 (aj q (by decide));⟨ak h.1,ak h.2.1,h.2.2⟩)⟩
 ·have d7:=aO 7 (by kernel_rfl);obtain rfl:=f7 d7;clear d7;simp only[rzA];go_simp;have gg:Gr w (w.alloc (.cells #[.int .i64 sp,.int .i64 v,.int .i64 5000,.int .i64 0] 128)):=(gfl _).alloc _;refine HK.down _ _ ⟨_,_,_,_,_,_,_,_,_,_,_,rfl,gw.step gg (by decide) (by decide),kp f0,kp f1,kp f2,kp f3,kp f4,kp f5,kp f6,kp f7,?_,fun q=>absurd (f9 (aj q (by decide))).1.2 hn,fun q=>(let h:=f10 (aj q (by decide));⟨ak h.1,ak h.2.1,h.2.2⟩)⟩;exact fun _=>⟨_,rfl,gw.sz,Row.new w _ _⟩
 ·have d0:=aO 0 (by kernel_rfl);have d8:=aO 8 (by kernel_rfl);obtain rfl:=f0 d0;obtain⟨B,rfl,hB,hR⟩:=f8 d8;have RB:=PLift.up hR;have HB:=PLift.up hB;clear hR hB;have n9:=getD_both fD;have o1:=gw.o n9;have CC:=fY RB.down;have lt0:∀k,(Value.slice a7 ds.length c7).ownBlock=some k->k<wr.heap.size:=fun k e=>LT1.down k e;refine vx _ rfl _ _ 31 rfl bs 128 i0 (.agg #[.int .i64 0,.int .i64 0,.int .i64 0,.int .i64 0]) 4 32 Tryz.underlying31 hi dt da cN rfl (by decide) (.slice a7 ds.length c7) ds.length (ds.flatMap eL) (by simp[Act.eval,rzA]) o1 (some ⟨B,0,none⟩) 1 1 [.int .i64 sp,.int .i64 v,.int .i64 5000,.int .i64 0] (by simp[Act.eval,rzA]) ⟨rfl,fun _=>⟨_,rfl,CC⟩⟩ (by simp[Value.oneCell']) (by unfold maxLen;have:=HDL.down;omega) (by have:=HDL.down;omega) (by have:=gw.sz;have:=HBS.down.2;omega) ?_;intro v9 w2 aV aE _;have e9:ds.flatMap eL++ [.int .i64 sp,.int .i64 v,.int .i64 5000,.int .i64 0]=(ds++ [(⟨sp,v,5000,0⟩:Drw)]).flatMap eL:=by simp[eL]
  rw[e9] at aV;refine HK.down _ _ ⟨_,_,_,_,_,_,_,_,_,_,_,rfl,⟨gw.gr.grown aE (fun k e=>Nat.le_trans HBS.down.1 (nj o1 k e).1),Nat.le_trans gw.sz aE.size,fun q=>gw.a (by rw[getD_set_ne false (by decide)] at q;exact q),fun q=>absurd q (by rw[fi (by rw[iB];decide)];decide),fun B2 T2 vs2 ht hr=>(let h2:=gw.oth B2 T2 vs2 ht hr;h2.grown aE (fun e=>OJ o1 h2 ht e.symm)),fun q=>absurd q (by rw[fi (by rw[iB];decide)];decide)⟩,fun _=>rfl,kp f1,kp f2,kp f3,kp f4,kp f5,kp f6,kp f7,fun _=>⟨B,rfl,HB.down,RB.down.grown aE (fun e=>by have:=lt0 B e.symm;have:=HB.down;omega)⟩,?_,fun q=>absurd (f10 (aj q (by decide))).2.1 hn⟩;exact fun _=>⟨⟨ak d0,ak d8⟩,aV⟩
 have d9:=aO 9 (by kernel_rfl);obtain⟨⟨z1,z2⟩,z3⟩:=f9 d9;have Z1:=PLift.up z1;clear z1 z2 z3;simp only[rzA];go_simp;have gg:=gfl w;refine HK.down _ _ ⟨_,_,_,_,_,_,_,_,_,_,_,rfl,⟨gw.gr,gw.sz,fun q=>absurd q (by rw[fi (by rw[iB];decide)];decide),fun q=>gw.o (by rw[getD_set_ne false (by decide)] at q;exact q),gw.oth,fun q=>gw.old (by rw[getD_set_ne false (by decide)] at q;exact q)⟩,fun q=>by first|exact f0 (aj q (by decide))|rfl,kp f1,kp f2,kp f3,kp f4,kp f5,kp f6,kp f7,ku f8,fun q=>(let h:=f9 (aj q (by decide));⟨⟨ak h.1.1,ak h.1.2⟩,Gr.owns h.2 gg⟩),?_⟩;exact fun _=>⟨ak Z1.down,ak d9,rfl⟩
end Go.Proofs.YtlmhkjdkcoiioaaGreatDoor
