/- Lemmas and contracts for the proof of PointAlone (several texts in one, printed by wip/tools/pack.py): Ks Kt. -/
import Derived.Test.YtlmhkjdkcoiioaaGreatDoorAl8pi
import Derived.Deep.CutBlock
import Derived.Deep.LoopGhost
import Derived.Laws.CopyOwn
import Derived.Laws.OwnMore
set_option maxRecDepth 100000
set_option maxHeartbeats 16000000
set_option linter.unusedVariables false
set_option linter.unusedSimpArgs false
namespace Go.Proofs.YtlmhkjdkcoiioaaGreatDoor
open Go.RowKit
open Classical
theorem IP(c:Clk)(i:Nat)(k:Int)(ap ac:Option Addr)(cp cc:Nat)(w:World)(sp:ag 1 RI w ap c.parents)(sc:ag 1 RI w ac c.choices)(hc:qv c i)(k0:0<=k)(k1:k<c.choices.length)(fp:c.parents.length<=8)(fc:c.choices.length<=8):
  Calls Tryz.prog 78 #[.agg #[.int .i64 c.kind,.slice ap c.parents.length cp,.slice ac c.choices.length cc,.int .i64 c.low,.int .i64 c.high],.int .i64 k] w (aN w (.int .i64 (gN c k))):=by
 by_cases h1:c.kind=1
 ·have b1:(c.kind==1)=true:=by simp[h1]
  have HP:=aa (show gN c k= -1 by rw[gN,if_pos h1]);clear hc sp sc h1;go_enter Tryz.func78,Tryz.ntmps78;go_wp2_with fail;go_ret;exact⟨bO HP.out.symm,(gfl _).alloc _⟩
 have b1:(c.kind==1)=false:=by simp[h1]
 obtain⟨hm,p0,p1⟩:=xX hc h1 k0 k1;by_cases h4:c.kind=4
 ·have b4:(c.kind==4)=true:=by simp[h4]
  obtain⟨hk,e⟩:=yk k0 k1;obtain⟨bc,oc,rfl,⟨q2,y2⟩⟩:=sc.one _ hk;have vz:0<=c.choices[k.toNat]/\c.choices[k.toNat]<=(c.parents.length:Int)-1:=by
   rcases hc.2.1 with⟨h,_⟩|⟨h,_⟩|⟨_,_,_,hd⟩|⟨h,_⟩
   ·omega
   ·omega
   ·obtain⟨_,d1,d2,_⟩:=hd _ hk;exact⟨d1,d2⟩
   omega
  have dw:(c.choices[k.toNat]).toNat<c.parents.length:=by omega
  obtain⟨bp,op,rfl,⟨q3,y3⟩⟩:=sp.one _ dw;have HP:=aa (show gN c k=c.parents[(c.choices[k.toNat]).toNat] by rw[gN,if_neg h1,if_pos h4,e,List.getD_eq_getElem?_getD,List.getElem?_eq_getElem dw];rfl)
  obtain⟨kn,jP⟩:∃kn:Nat,k=kn:=⟨_,(Int.toNat_of_nonneg k0).symm⟩;obtain⟨j,hj⟩:∃j:Nat,c.choices[k.toNat]=j:=⟨_,(Int.toNat_of_nonneg vz.1).symm⟩;obtain⟨y,hy⟩:∃y:Int,c.parents[(c.choices[k.toNat]).toNat]=y:=⟨_,rfl⟩;rw[hy] at q3 HP;have q2':w.cell? ⟨bc,oc+kn,none⟩=some (.int .i64 j):=by
   have e1:k.toNat=kn:=by omega
   rw[<-hj,<-e1];exact q2
  have q3':w.cell? ⟨bp,op+j,none⟩=some (.int .i64 y):=by
   have e1:(c.choices[k.toNat]).toNat=j:=by omega
   rw[<-e1];exact q3
  have k2:(kn:Int)<c.choices.length:=by omega
  have j2:(j:Int)<c.parents.length:=by omega
  have x2:=ae q2';have x3:=ae q3';rw[jP] at HP ⊢;clear y2 y3 hc sp sc h1 h4 q2 q3 hk e hm p0 p1 vz dw hj hy k0 k1 jP;go_enter Tryz.func78,Tryz.ntmps78;go_wp2_with fail
  go_quiet (fail)
  go_wp2_with fail;go_ret;exact⟨bO HP.out.symm,grr⟩
 have b4:(c.kind==4)=false:=by simp[h4]
 have hl0:0<c.parents.length:=List.length_pos_of_mem hm;obtain⟨bp,op,rfl,⟨q3,y3⟩⟩:=sp.one 0 hl0;have HP:=aa (show gN c k=c.parents[0] by rw[gN,if_neg h1,if_neg h4,List.getD_eq_getElem?_getD,List.getElem?_eq_getElem hl0];rfl)
 have j2:(0:Int)<c.parents.length:=by omega
 rw[Nat.add_zero] at q3;have x3:=ae q3;clear y3 hc sp sc h1 h4 hm p0 p1;go_enter Tryz.func78,Tryz.ntmps78;go_wp2_with fail;go_ret;exact⟨bO HP.out.symm,(gfl _).alloc _⟩
theorem newZ(d:Int)(h0:1<=d):gQ 0 d=0/\iw 0 d=1:=by
 have hg:(Int.gcd 0 d:Int)=d:=by rw[Int.gcd_zero_left];omega
 have h1:d/d=1:=Int.ediv_self (by omega);have ho:kq 0 d=true:=by
  unfold kq;rw[hg,h1];simp[h0]
  decide
 rw[gQ,iw,if_pos ho,if_pos ho,hg,h1];simp
theorem TR(k:Int)(h0:1<=k)(h1:k<=64):oN 0 1 k=0/\oD 0 1 k=1:=by
 have hv:=Dr 0 1 k (by omega) (by omega) h0;have ho:eu 0 1 k=true:=by simp[eu,h0,h1];decide
 rw[oN,oD,if_pos ho,if_pos ho,<-hv.2.1,<-hv.2.2];exact newZ (1*k) (by omega)
theorem Rk(k:Int)(h0:1<=k)(h1:k<=64):tN 0 1 k=0/\tD 0 1 k=1:=by
 have ho:eu 0 1 k=true:=by simp[eu,h0,h1];decide
 have hg:(Int.gcd k 1:Int)=1:=by simp
 have hb:¬nZ 0 1 k:=by unfold nZ;have:=Int.ediv_nonneg (a:=144115188075855872) (b:=k/Int.gcd k 1) (by omega) (by rw[hg];simp;omega);omega
 have h:=tN_of hb ho;rw[h.1,h.2,hg];simpa using newZ 1 (by omega)
def onL(R:List Rt):List Bool:=R.map Option.isSome
def Mp(w:World)(l:List Clk)(s:List Int)(e:Ending)(w':World):Prop:=
 ∃v1 v2,e= .returned (.tuple #[v1,v2])/\w'.ownsRow w.heap.size 57 2 v1 l.length (gu ((rts l s).map prR))/\w'.ownsRow w.heap.size 4 1 v2 l.length (bg (onL (rts l s)))/\Gr w w'
theorem Sh(ps:List (Int×Int))(p:Int×Int):gu (ps++ [p])=gu ps++ [.int .i64 p.1,.int .i64 p.2]:=by simp[gu]
theorem pe:(Tryz.prog.info? 4).map (fun i=>(i.zero,i.size,i.bytes))=some (some (.bool false),1,1):=by kernel_rfl
theorem mc{w:World}{base base' e e' size size' n n':Nat}{v v':Value}{xs xs':List Value}(h:w.ownsRow base e size v n xs)(h':w.ownsRow base' e' size' v' n' xs')(hT:e≠e'):v'.ownBlock=none∨v'.ownBlock≠v.ownBlock:=by
 obtain⟨_,⟨rfl,_⟩|⟨g',cap',cur',rfl,_,oq,_⟩⟩:=h'
 ·exact .inl rfl
 refine .inr fun q=>?_;obtain⟨_,⟨rfl,_⟩|⟨g,cap,cur,rfl,_,hg,_⟩⟩:=h
 ·cases q
 have:g'=g:=by simpa [Value.ownBlock] using q
 subst this;rw[hg] at oq;injection oq with oq;injection oq with _ oq;exact hT oq
theorem Hd{c:Clk}{i:Nat}{k:Int}(hc:qv c i)(h:c.kind=2∨c.kind=3)(k0:0<=k)(k1:k<c.choices.length):1<=chC c k/\chC c k<=64:=by
 obtain⟨jP,e'⟩:=yk k0 k1;rcases hc.2.1 with⟨h,_⟩|⟨_,_,_,hd⟩|⟨h,_⟩|⟨h,_⟩
 ·omega
 ·obtain⟨_,d1,d2,_⟩:=hd _ jP;rw[e'];exact⟨d1,d2⟩
 ·omega
 omega
theorem Xj{c:Clk}{x rn rd:Int}{pt:Rt}(h:c.kind=2)(hp:(rn,rd)=prR pt)(x0:1<=x)(x1:x<=64):prR (iv c x pt)=(oN rn rd x,oD rn rd x)/\(iv c x pt).isSome=pt.isSome:=by
 cases pt with
 |none=>simp only[prR,fW,gC,Prod.mk.injEq] at hp;obtain⟨rfl,rfl⟩:=hp;have:=TR x x0 x1;simp[iv,prR,fW,gC,this.1,this.2]
 |some nd=>obtain⟨n,d⟩:=nd;simp only[prR,fW,gC,Prod.mk.injEq] at hp;obtain⟨rfl,rfl⟩:=hp;simp[iv,mG,h,prR,fW,gC]
theorem Xg{c:Clk}{x rn rd:Int}{pt:Rt}(h:c.kind=3)(hp:(rn,rd)=prR pt)(x0:1<=x)(x1:x<=64):prR (iv c x pt)=(tN rn rd x,tD rn rd x)/\(iv c x pt).isSome=pt.isSome:=by
 cases pt with
 |none=>simp only[prR,fW,gC,Prod.mk.injEq] at hp;obtain⟨rfl,rfl⟩:=hp;have:=Rk x x0 x1;simp[iv,prR,fW,gC,this.1,this.2]
 |some nd=>obtain⟨n,d⟩:=nd;simp only[prR,fW,gC,Prod.mk.injEq] at hp;obtain⟨rfl,rfl⟩:=hp;simp[iv,mG,h,prR,fW,gC]
theorem Re{c:Clk}{x:Int}{pt:Rt}(h2:c.kind≠2)(h3:c.kind≠3)(h5:c.kind=5->x≠0):iv c x pt=pt:=by
 cases pt with
 |none=>rfl
 |some nd=>obtain⟨n,d⟩:=nd;have:¬(c.kind=5/\x=0):=fun q=>h5 q.1 q.2;simp[iv,mG,h2,h3,this]
theorem Xh{c:Clk}{x:Int}{pt:Rt}(h5:c.kind=5)(hx:x=0):iv c x pt=none:=by
 cases pt with
 |none=>rfl
 |some nd=>simp[iv,mG,h5,hx]
theorem Ti{t:Nat}{pt:Rt}(h:rF t pt):0<=(prR pt).1/\(prR pt).1<=144115188075855872/\1<=(prR pt).2/\(prR pt).2<=16777216:=by
 cases pt with
 |none=>simp[prR,fW,gC]
 |some nd=>obtain⟨n,d⟩:=nd;have v:=dX (h n d rfl).1;simp only[prR,fW,gC];omega
theorem sq(l:List Clk)(s:List Int)(al aS:Option Addr)(cl cs:Nat)(w:World)(h:ag 5 cY w al l)(hs:ag 1 RI w aS s)(hc:bA l=0)(aZ:aI l s):
  Calls Tryz.prog 21 #[.slice al l.length cl,.slice aS s.length cs] w (Mp w l s):=by
 obtain⟨nb,ok,pr,fs⟩:=bm hc;have hl:=cg nb;have eX:s.length=l.length:=aZ.1;have H:=aa h;have HS:=aa hs;have OK:=aa ok;have HT:=aa aZ;have NB:=aa nb;have RO:=aa (xq ok fs aZ);have HSL:=aa eX;clear h hs ok aZ hc nb pr fs;obtain⟨j0,hj,kN,ka,lg⟩:=info_parts JI;obtain⟨i0,hi,dt,da,cN⟩:=info_parts pe;rw[eX];clear eX;go_enter Tryz.func21,Tryz.ntmps21;go_wp2_with fail;go_loopw [6,7,16] (fun s6 s7 i wr=>∃(k:Nat) (a1 a2:Option Addr) (c1 c2:Nat),k<=l.length/\i= .int .i64 k/\s6= .slice a1 k c1/\s7= .slice a2 k c2/\wr.ownsRow w.heap.size 57 2 (.slice a1 k c1) k (gu ((rts (l.take k) (s.take k)).map prR))/\wr.ownsRow w.heap.size 4 1 (.slice a2 k c2) k (bg (onL (rts (l.take k) (s.take k))))/\Gr w wr) (fun _ _ i _=>l.length-(intOf i).toNat);case atStart=>exact⟨0,none,none,0,0,Nat.zero_le _,rfl,rfl,rfl,World.ownsRow_nil _ _ _ _,World.ownsRow_nil _ _ _ _,gfl _⟩
 case round=>
  obtain⟨k,a1,a2,c1',c2',hk,rfl,rfl,rfl,wL,wY,hg⟩:=hrel;have O1:=aa wL;have O2:=aa wY;have HG:=aa hg;clear wL wY hg;obtain⟨wo,rfl⟩:∃wo:World,wo=wr:=⟨_,rfl⟩;by_cases aA:k<l.length
  ·have kJ:k<s.length:=by have:=HSL.out;omega
   obtain⟨k0,k1⟩:=HT.out.2 k aA kJ;obtain⟨_,rE⟩:=OK.out k aA;obtain⟨fp,fc⟩:=fR NB.out aA;have CK:=aa rE;obtain⟨b,o,rfl,⟨c0,_⟩,⟨ap,cp,c1,c1l,jQ,sp⟩,⟨ac,cc,c2,c2l,mB,sc⟩,⟨c3,_⟩,⟨c4,_⟩⟩:=bj H.out HG.out k aA;obtain⟨bs,os,rfl,⟨q1,y1⟩⟩:=(HS.out.giI HG.out).one k kJ;obtain⟨t9,e⟩:=yk k0 k1;obtain⟨bc,oc,rfl,⟨q2,y2⟩⟩:=sc.one _ t9;rw[<-e] at q2 y2;obtain⟨j,qH⟩:∃j:Nat,s[k]=j:=⟨_,(Int.toNat_of_nonneg k0).symm⟩;obtain⟨x,hx⟩:∃x:Int,chC l[k] s[k]=x:=⟨_,rfl⟩;rw[hx] at q2 y2;have e1:s[k].toNat=j:=by omega
   rw[e1] at q2;rw[qH] at q1;have j2:(j:Int)<l[k].choices.length:=by omega
   have l1:(k:Int)<l.length:=by omega
   have ly:=ae q2;have jm:=ae q1;have HX:=aa hx;have HJ:=aa qH;have KK:=aa (show 0<=s[k]/\s[k]<l[k].choices.length from⟨k0,k1⟩);have PAR:=aa (fun W (hW:Gr wo W)=>IP l[k] k s[k] ap (some ⟨bc,oc,none⟩) cp cc W (sp.giI hW) (sc.giI hW) rE k0 k1 fp fc);rw[qH] at PAR;obtain⟨p,hp⟩:∃p,gN l[k] (j:Int)=p:=⟨_,rfl⟩;rw[hp] at PAR;have HP:=aa hp;unfold aK at y2;clear rE sp sc jQ mB t9 e hx qH e1 y1 k0 k1 hp;go_wp2_with fail;obtain⟨BC,hBC⟩:∃BC:Nat,Hid (wo.heap.size=BC):=⟨_,aa rfl⟩;obtain⟨BR,hBR⟩:∃BR:Nat,Hid (wo.heap.size+1=BR):=⟨_,aa rfl⟩;rw[hBR.out,hBC.out];obtain⟨W3,hW3⟩:∃W3:World,Hid (W3=(wo.alloc (.cells #[.int .i64 l[k].kind,.slice ap l[k].parents.length cp,.slice (some ⟨bc,oc,none⟩) l[k].choices.length cc,.int .i64 l[k].low,.int .i64 l[k].high] 130)).alloc (.cells #[.int .i64 0,.int .i64 1] 57)):=⟨_,aa rfl⟩;rw[<-hW3.out];have g3:Gr wo W3:=by rw[hW3.out];exact((gfl _).alloc _).alloc _
   have RC:Hid (Row W3 BC 130 [.int .i64 l[k].kind,.slice ap l[k].parents.length cp,.slice (some ⟨bc,oc,none⟩) l[k].choices.length cc,.int .i64 l[k].low,.int .i64 l[k].high]):=aa (by rw[hW3.out,<-hBC.out];exact(Row.new wo _ _).alloc _);have RR:Hid (Row W3 BR 57 [.int .i64 0,.int .i64 1]):=aa (by rw[hW3.out];exact sZ _ _ _ _ (by rw[<-hBR.out];simp));have G3:=aa (HG.out.trans g3);have P1:=aa (Gr.owns O1.out g3);have P2:=aa (Gr.owns O2.out g3);have br:Hid (w.heap.size<=BR):=aa (by have:=HG.out.size;have:=hBR.out;omega);have bcr:Hid (BC≠BR):=aa (by have:=hBC.out;have:=hBR.out;omega);have nown:Hid (∀g,(Value.slice a1 k c1').ownBlock=some g->g<BR):=aa (fun g Ha=>by have:=(O1.out.lt g Ha).2;have:=hBR.out;omega);have nown2:Hid (∀g,(Value.slice a2 k c2').ownBlock=some g->g<BR):=aa (fun g Ha=>by have:=(O2.out.lt g Ha).2;have:=hBR.out;omega);have m0:=RC.out.cell 0 (by simp);have m1:=RC.out.cell 1 (by simp);have m2:=RC.out.cell 2 (by simp);have m3:=RC.out.cell 3 (by simp);have m4:=RC.out.cell 4 (by simp);have mh:=RC.out.has;simp only[List.getElem_cons_zero,List.getElem_cons_succ] at m0 m1 m2 m3 m4;have q1':=aB g3 q1;have q2':=aB g3 q2;have hx1':=ae q1';have hx2':=ae q2';have PAR':Hid (∀W,Gr W3 W->Calls Tryz.prog 78 #[.agg #[.int .i64 l[k].kind,.slice ap l[k].parents.length cp,.slice (some ⟨bc,oc,none⟩) l[k].choices.length cc,.int .i64 l[k].low,.int .i64 l[k].high],.int .i64 j] W (aN W (.int .i64 p))):=aa (fun W hW=>PAR.out W (g3.trans hW));have lb1:Hid (bs<BR/\bc<BR):=aa (by unfold Has at jm ly;have:=hBR.out;omega);have Q1:=aa q1';have Q2:=aa q2';clear hW3 hBC hBR O1 O2 HG PAR c0 c1 c2 c3 c4 q1 q2 jm ly g3;refine ar (by kernel_rfl) (by kernel_rfl) ?_;repeat(go_big_quiet_step (first|(go_at_call 78;exact bJ (PAR'.out _ ((gfl _).xt _ _)))))
   refine wpQuiet_nil ?_;rintro _ ⟨⟨O,dd⟩,rfl⟩
   go_upto_if 29 with(fail)
   obtain⟨W4,hW4⟩:∃W4:World,Hid (W4=xt W3 O dd):=⟨_,aa rfl⟩;rw[<-hW4.out];have uW:Hid (Gr W3 W4):=aa (by rw[hW4.out];exact(gfl _).xt O dd);obtain⟨pt,hpt⟩:∃pt,(rts (l.take k) (s.take k)).getD p.toNat none=pt:=⟨_,rfl⟩;have HPT:=aa hpt;have hlr:(rts (l.take k) (s.take k)).length=k:=by rw[kt _ _ (by have:=HSL.out;simp;omega)];simp;omega
   have HLR:=aa hlr;clear hW4 hpt m0 m1 m2 m3 m4 mh q1' q2' hx1' hx2' PAR' hlr;go_cut [11] (fun v wx=>∃(on:Bool) (rn rd:Int),v= .bool on/\Row wx BR 57 [.int .i64 rn,.int .i64 rd]/\(l[k].kind≠1->(rn,rd)=prR pt/\on=pt.isSome)/\(l[k].kind=1->on=true)/\W3.grownBy wx (some BR));case first=>
    by_cases h1:l[k].kind=1
    ·have Io:p= -1:=(by rw[<-HP.out,gN,if_pos h1]);have hd:decide ((0:Int)<=p)=false:=dfx (by omega);have K1:=aa h1;clear h1;go_wp2_with fail
     go_meet
     exact⟨true,0,1,rfl,RR.out.gr uW.out,fun q=>absurd K1.out q,fun _=>rfl,uW.out.by _⟩
    obtain⟨hm,p0,p1⟩:=xX CK.out h1 KK.out.1 KK.out.2;rw[HJ.out,HP.out] at p0 p1;have hd:decide ((0:Int)<=p)=true:=dtx (by omega);obtain⟨q,hq⟩:∃q:Nat,p=q:=⟨_,(Int.toNat_of_nonneg p0).symm⟩;have Ig:q<k:=(by omega);have ot:=Bn ((rts (l.take k) (s.take k)).map prR) q (by rw[List.length_map,HLR.out];exact Ig);have Am:(rts (l.take k) (s.take k))[q]'(by rw[HLR.out];exact Ig)=pt:=by have e:=HPT.out;rw[List.getD_eq_getElem?_getD,List.getElem?_eq_getElem (by rw[HLR.out];omega)] at e;have e2:p.toNat=q:=(by omega);subst e;simp only[e2];rfl
    rw[List.getElem_map,Am] at ot;obtain⟨g1,d1,e1,_,_,oC⟩:=fM P1.out (by omega);obtain⟨g2,d2,e2,_,_,Hi⟩:=fM P2.out (by omega);cases e1
    cases e2
    have r0:=oC (q*2) (by omega);have r1:=oC (q*2+1) (by omega);have r2:=Hi q (by omega);rw[List.getElem?_eq_getElem (by rw[hZ,List.length_map,HLR.out];omega),ot.1] at r0;rw[List.getElem?_eq_getElem (by rw[hZ,List.length_map,HLR.out];omega),ot.2] at r1;rw[List.getElem?_eq_getElem (by simp[bg,onL,HLR.out];omega)] at r2;simp only[bg,onL,List.getElem_map,Am] at r2;have r0':=aB uW.out r0;have r1':=aB uW.out r1;have r2':=aB uW.out r2;have rh1:=ae r0';have rh2:=ae r2';have b0:=(RR.out.gr uW.out).cell 0 (by simp);have b1:=(RR.out.gr uW.out).cell 1 (by simp);have bf0:=(RR.out.gr uW.out).free 0;have bf1:=(RR.out.gr uW.out).free 1;have bh:=(RR.out.gr uW.out).has;simp only[List.getElem_cons_zero,List.getElem_cons_succ] at b0 b1;have n2:¬(g2=BR):=(by have:=nown2.out g2 rfl;omega);have n3:¬(BR=g2):=fun e=>n2 e.symm;have q2:(q:Int)<k:=(by omega);obtain⟨x0,ex0⟩:∃x,(prR pt).1=x:=⟨_,rfl⟩;obtain⟨x1,ex1⟩:∃x,(prR pt).2=x:=⟨_,rfl⟩;obtain⟨xo,exo⟩:∃x,pt.isSome=x:=⟨_,rfl⟩;rw[ex0] at r0';rw[ex1] at r1';rw[exo] at r2';have EX:Hid ((x0,x1)=prR pt/\xo=pt.isSome):=aa ⟨by rw[<-ex0,<-ex1],exo.symm⟩;have K1:=aa h1;clear hm p0 p1 ot Am oC Hi r0 r1 r2 ex0 ex1 exo h1;subst hq;go_wp2_with fail;go_region;go_wp2_with fail
    go_meet
    refine⟨xo,x0,x1,rfl,?_,fun _=>EX.out,fun q=>absurd q K1.out,?_⟩
    ·exact(((RR.out.gr uW.out).set 0 (.int .i64 x0)).set 1 (.int .i64 x1)).drew
    exact(((uW.out.by _).trans (cA W4 BR 0 (.int .i64 x0))).trans (cA _ BR 1 (.int .i64 x1))).trans ((gfl _).drew.by _)
   case rest=>
    obtain⟨on,rn,rd,rfl,hr,OD,OS,hgb⟩:=hcut;have stp:Hid (mj (rts (l.take k) (s.take k)) l[k] s[k]=if l[k].kind=1 then some (x,1) else iv l[k] x pt):=aa (by
     by_cases h1:l[k].kind=1
     ·rw[if_pos h1,mj,if_pos h1,HX.out]
     have e1:gN l[k] s[k]=p:=(by rw[HJ.out];exact HP.out);rw[if_neg h1,KL h1,HX.out,e1,HPT.out])
    have bnd:l[k].kind≠1->0<=rn/\rn<=144115188075855872/\1<=rd/\rd<=16777216:=fun h1=>by obtain⟨hm,p0,p1⟩:=xX CK.out h1 KK.out.1 KK.out.2;rw[HJ.out,HP.out] at p0 p1;have hlp:p.toNat<(rts (l.take k) (s.take k)).length:=(by rw[HLR.out];omega);have h9:=RO.out k hk p.toNat hlp;have e:=HPT.out;rw[List.getD_eq_getElem?_getD,List.getElem?_eq_getElem hlp] at e;have e':(rts (l.take k) (s.take k))[p.toNat]=pt:=e;rw[e'] at h9;have:=Ti h9;rw[<-(OD h1).1] at this;exact this
    have BND:=aa bnd;have COND:=aa OD;have ONE:=aa OS;have R5:=aa hr;have GB:=aa hgb;have rc:=RC.out.grown hgb (fun e=>bcr.out (Option.some.inj e));have m0:=rc.cell 0 (by simp);have m2:=rc.cell 2 (by simp);have mh:=rc.has;simp only[List.getElem_cons_zero,List.getElem_cons_succ] at m0 m2;have q1':=hgb.cell Q1.out (fun e=>by have e':bs=BR:=Option.some.inj e;have:=lb1.out.1;omega);have q2':=hgb.cell Q2.out (fun e=>by have e':bc=BR:=Option.some.inj e;have:=lb1.out.2;omega);have hx1':=ae q1';have hx2':=ae q2';obtain⟨wd,hwd⟩:∃wd:World,wc=wd:=⟨_,rfl⟩;subst hwd;clear hr OD OS hgb bnd rc;go_wp2_with fail
    go_quiet (fail)
    go_upto_block 2 with(fail)
    obtain⟨W6,hW6⟩:∃W6:World,Hid (W6=wc.drewN nq):=⟨_,aa rfl⟩;rw[<-hW6.out];have R6:Hid (Row W6 BR 57 [.int .i64 rn,.int .i64 rd]):=aa (by rw[hW6.out];exact R5.out.drewN _);have GB6:Hid (W3.grownBy W6 (some BR)):=aa (by rw[hW6.out];exact GB.out.trans (((gfl _).drewN _).by _));clear hW6 R5 GB m0 m2 mh q1' q2' hx1' hx2';obtain⟨st,dU⟩:∃st,mj (rts (l.take k) (s.take k)) l[k] s[k]=st:=⟨_,rfl⟩;have STP:=stp.out;rw[dU] at STP;have HST:=aa dU;have STP':=aa STP;clear STP dU stp;have b0:=R6.out.cell 0 (by simp);have b1:=R6.out.cell 1 (by simp);have bf0:=R6.out.free 0;have bf1:=R6.out.free 1;have bh:=R6.out.has;simp only[List.getElem_cons_zero,List.getElem_cons_succ] at b0 b1;go_cut [11] (fun v wx=>v= .bool st.isSome/\Row wx BR 57 [.int .i64 (prR st).1,.int .i64 (prR st).2]/\W3.grownBy wx (some BR));case first=>
     have setg:∀(W:World) (y z:Int),W3.grownBy W (some BR)->W3.grownBy ((W.setCell ⟨BR,0,none⟩ (.int .i64 y)).setCell ⟨BR,1,none⟩ (.int .i64 z)) (some BR):=fun W y z h=>(h.trans (cA W BR 0 _)).trans (cA _ BR 1 _);have SETG:=aa setg;clear setg;by_cases h1:l[k].kind=1
     ·have bb:(l[k].kind==1)=true:=(by simp[h1]);have E:Hid (st=some (x,1)):=aa (by rw[STP'.out,if_pos h1]);have EO:=ONE.out h1;subst EO;clear h1;go_wp2_with fail
      go_meet
      rw[E.out];exact⟨rfl,(R6.out.set 0 (.int .i64 x)).set 1 (.int .i64 1),SETG.out _ _ _ GB6.out⟩
     have bb:(l[k].kind==1)=false:=(by simp[h1]);have E:Hid (st=iv l[k] x pt):=aa (by rw[STP'.out,if_neg h1]);obtain⟨oC,Hi⟩:=COND.out h1;obtain⟨u0,u1,u2,u3⟩:=BND.out h1;have HC1:=aa oC;have HC2:=aa Hi;clear oC Hi;by_cases h2:l[k].kind=2
     ·have bb2:(l[k].kind==2)=true:=(by simp[h2]);obtain⟨x0,x1⟩:=Hd CK.out (.inl h2) KK.out.1 KK.out.2;rw[HX.out] at x0 x1;have S2:=aa (Xj h2 HC1.out x0 x1);clear h1 h2;go_wp2_with fail;refine(MP rn rd x _ (by omega) (by omega) (by omega) (by omega)).mono ?_;rintro e w' ⟨rfl,O1,D1,rfl⟩;go_wp2_with fail
      go_meet
      rw[E.out,S2.out.1,S2.out.2,HC2.out];exact⟨rfl,((R6.out.set 0 (.int .i64 (oN rn rd x))).set 1 (.int .i64 (oD rn rd x))).xt O1 D1,(SETG.out _ _ _ GB6.out).trans (((gfl _).xt O1 D1).by _)⟩
     have bb2:(l[k].kind==2)=false:=(by simp[h2]);by_cases h3:l[k].kind=3
     ·have bb3:(l[k].kind==3)=true:=(by simp[h3]);obtain⟨x0,x1⟩:=Hd CK.out (.inr h3) KK.out.1 KK.out.2;rw[HX.out] at x0 x1;have S3:=aa (Xg h3 HC1.out x0 x1);clear h1 h2 h3;go_wp2_with fail;refine(Lo rn rd x _ (by omega) (by omega) (by omega) (by omega)).mono ?_;rintro e w' ⟨rfl,O1,D1,rfl⟩;go_wp2_with fail
      go_meet
      rw[E.out,S3.out.1,S3.out.2,HC2.out];exact⟨rfl,((R6.out.set 0 (.int .i64 (tN rn rd x))).set 1 (.int .i64 (tD rn rd x))).xt O1 D1,(SETG.out _ _ _ GB6.out).trans (((gfl _).xt O1 D1).by _)⟩
     have bb3:(l[k].kind==3)=false:=(by simp[h3]);by_cases h5:l[k].kind=5
     ·have bb5:(l[k].kind==5)=true:=(by simp[h5]);by_cases lR:x=0
      ·have bx:(x==0)=true:=(by simp[lR]);have S5:=aa (Xh (pt:=pt) h5 lR);clear h1 h2 h3 h5 lR;go_wp2_with fail
       go_meet
       rw[E.out,S5.out];exact⟨rfl,(R6.out.set 0 (.int .i64 0)).set 1 (.int .i64 1),SETG.out _ _ _ GB6.out⟩
      have bx:(x==0)=false:=(by simp[lR]);have S4:=aa (Re (x:=x) (pt:=pt) h2 h3 (fun _=>lR));clear h1 h2 h3 h5 lR;go_wp2_with fail
      go_meet
      rw[E.out,S4.out,<-HC1.out,HC2.out];exact⟨rfl,R6.out,GB6.out⟩
     have bb5:(l[k].kind==5)=false:=(by simp[h5]);have S4:=aa (Re (x:=x) (pt:=pt) h2 h3 (fun q=>absurd q h5));clear h1 h2 h3 h5;go_wp2_with fail
     go_meet
     rw[E.out,S4.out,<-HC1.out,HC2.out];exact⟨rfl,R6.out,GB6.out⟩
    case rest=>
     obtain⟨rfl,hr7,jT⟩:=hcut;obtain⟨n1,en1⟩:∃n,(prR st).1=n:=⟨_,rfl⟩;obtain⟨n2,en2⟩:∃n,(prR st).2=n:=⟨_,rfl⟩;obtain⟨o1,eo1⟩:∃o,st.isSome=o:=⟨_,rfl⟩;rw[en1,en2] at hr7;have EN:Hid (prR st=(n1,n2)/\st.isSome=o1):=aa ⟨by rw[<-en1,<-en2],eo1⟩;have b0:=hr7.cell 0 (by simp);have b1:=hr7.cell 1 (by simp);have bh:=hr7.has;simp only[List.getElem_cons_zero,List.getElem_cons_succ] at b0 b1;have nb1:∀(v:Value),(∀g,v.ownBlock=some g->g<BR)->v.ownBlock=none∨v.ownBlock≠some BR:=fun v hv=>by
      cases e:v.ownBlock with
      |none=>exact .inl rfl
      |some g=>exact .inr (fun q=>by have:=hv g e;have:=Option.some.inj q;omega)
     have P7:=P1.out.kept jT (nb1 _ nown.out);have S7:=aa (P2.out.kept jT (nb1 _ nown2.out));have A7:=aa (P7.alloc (.cells #[.int .i64 n1,.int .i64 n2] 57));have C7:Hid (∀j u,([Value.int .i64 n1,.int .i64 n2])[j]?=some u->(wc.alloc (.cells #[.int .i64 n1,.int .i64 n2] 57)).cell? ((⟨wc.heap.size,0,none⟩:Addr).add j)=some u):=aa (fY (Row.new wc #[.int .i64 n1,.int .i64 n2] 57));have one:Hid (∀u∈ [Value.int .i64 n1,.int .i64 n2],u.oneCell'=true):=aa (by intro u hu;simp only[List.mem_cons,List.not_mem_nil,or_false] at hu;rcases hu with rfl|rfl<;>rfl)
     have G7:Hid (Gr w wc):=aa (G3.out.grown jT (fun q e=>by have:=Option.some.inj e;have:=br.out;omega));have base:Hid (w.heap.size<=wc.heap.size):=aa G7.out.size;have nn:=mc P7 S7.out (by decide);have NN:=aa nn;rw[eo1];clear hr7 jT P7 nb1 en1 en2 eo1 nn;go_wp2_with (first
      |(at_builtin;refine wpList_append_own _ rfl _ _ 63 rfl w.heap.size 57 j0 (.agg #[.int .i64 0,.int .i64 0]) 2 16 Tryz.underlying63 hj kN ka lg rfl (by decide) (.slice a1 k c1') k (gu ((rts (l.take k) (s.take k)).map prR)) rfl A7.out ⟨wc.heap.size,0,none⟩ 1 1 [.int .i64 n1,.int .i64 n2] rfl rfl C7.out one.out (by unfold maxLen;omega) (by omega) (by have:=base.out;simp;omega) ?_;intro v' W8 aV aE eJ;obtain⟨a8,c8,rfl⟩:=be aV;have O8:=aa aV;have G8:=aa ((G7.out.alloc (.cells #[.int .i64 n1,.int .i64 n2] 57)).grown aE (fun q e=>(A7.out.lt q e).1));have S8:=aa (((S7.out.alloc (.cells #[.int .i64 n1,.int .i64 n2] 57)).kept aE NN.out).alloc (.cells #[.bool o1] 4));have C8:Hid (∀j u,([Value.bool o1])[j]?=some u->(W8.alloc (.cells #[.bool o1] 4)).cell? ((⟨W8.heap.size,0,none⟩:Addr).add j)=some u):=aa (cell_one_new W8 (.bool o1) 4);clear aV aE eJ)
      |(at_builtin;refine wpList_append_own _ rfl _ _ 27 rfl w.heap.size 4 i0 (.bool false) 1 1 Tryz.underlying27 hi dt da cN rfl (by decide) (.slice a2 k c2') k (bg (onL (rts (l.take k) (s.take k)))) rfl S8.out ⟨W8.heap.size,0,none⟩ 1 1 [.bool o1] rfl rfl C8.out (by simp[Value.oneCell']) (by unfold maxLen;omega) (by omega) (by have:=G8.out.size;simp;omega) ?_;intro v' W9 aV aE eJ;obtain⟨a9,c9,rfl⟩:=be aV;have O9:=aa aV;have G9:=aa ((G8.out.alloc (.cells #[.bool o1] 4)).grown aE (fun q e=>(S8.out.lt q e).1));have A9:=aa ((O8.out.alloc (.cells #[.bool o1] 4)).kept aE (mc S8.out (O8.out.alloc (.cells #[.bool o1] 4)) (by decide)));clear aV aE eJ)
      |fail)
     go_roundw;case rel=>
      have er:rts (l.take (k+1)) (s.take (k+1))=rts (l.take k) (s.take k)++ [st]:=(by rw[Dt l s k aA kJ,HST.out]);refine⟨k+1,a8,a9,c8,c9,by omega,by go_num,rfl,rfl,?_,?_,G9.out⟩
      ·rw[er,List.map_append,List.map_cons,List.map_nil,Sh,EN.out.1];exact A9.out
      rw[er];have:=O9.out;simpa [onL,bg,EN.out.2] using this
     case measure=>simp[intOf];omega
  obtain rfl:k=l.length:=by omega
  go_wp2_with fail;go_ret2;have h1:=O1.out;have h2:=O2.out;rw[List.take_length,List.take_of_length_le (by have:=HSL.out;omega)] at h1 h2;exact⟨_,_,rfl,h1,h2,HG.out⟩
def xQ(w:World)(a:Option Addr)(R:List Rt):Prop:=∀k,k<R.length->∃g,a=some ⟨g,0,none⟩/\w.cell? ⟨g,k*2,none⟩=some (.int .i64 (fW (cZ R k)))/\w.cell? ⟨g,k*2+1,none⟩=some (.int .i64 (gC (cZ R k)))
def Ea(w:World)(a:Option Addr)(R:List Rt):Prop:=∀k,k<R.length->∃g,a=some ⟨g,0,none⟩/\w.cell? ⟨g,k,none⟩=some (.bool (cZ R k).isSome)
theorem xQ.gr{w w':World}{a:Option Addr}{R:List Rt}(h:xQ w a R)(hg:Gr w w'):xQ w' a R:=fun k hk=>by obtain⟨g,e,c0,c1⟩:=h k hk;exact⟨g,e,aB hg c0,aB hg c1⟩
theorem Ea.gr{w w':World}{a:Option Addr}{R:List Rt}(h:Ea w a R)(hg:Gr w w'):Ea w' a R:=fun k hk=>by obtain⟨g,e,c0⟩:=h k hk;exact⟨g,e,aB hg c0⟩
theorem uH{R:List Rt}{k:Nat}(h:k<R.length):cZ R k=R[k]:=by rw[cZ,List.getD_eq_getElem?_getD,List.getElem?_eq_getElem h];rfl
theorem nD{w:World}{base n:Nat}{v:Value}{R:List Rt}(hn:R.length=n)(h:w.ownsRow base 57 2 v n (gu (R.map prR))):∃a c,v= .slice a n c/\xQ w a R:=by
 subst hn;rcases Nat.eq_zero_or_pos R.length with e|e
 ·obtain⟨a,c,ev⟩:=be h;exact⟨a,c,ev,fun k hk=>by omega⟩
 obtain⟨g,c,ev,_,_,hc⟩:=fM h e;refine⟨_,c,ev,fun k hk=>⟨g,rfl,?_⟩⟩;have ot:=Bn (R.map prR) k (by simpa using hk);have h0:=hc (k*2) (by omega);have h1:=hc (k*2+1) (by omega);rw[List.getElem?_eq_getElem (by rw[hZ,List.length_map];omega),ot.1] at h0;rw[List.getElem?_eq_getElem (by rw[hZ,List.length_map];omega),ot.2] at h1;rw[uH hk];simp only[List.getElem_map,prR] at h0 h1;exact⟨h0,h1⟩
theorem Cn{w:World}{base n:Nat}{v:Value}{R:List Rt}(hn:R.length=n)(h:w.ownsRow base 4 1 v n (bg (onL R))):∃a c,v= .slice a n c/\Ea w a R:=by
 subst hn;rcases Nat.eq_zero_or_pos R.length with e|e
 ·obtain⟨a,c,ev⟩:=be h;exact⟨a,c,ev,fun k hk=>by omega⟩
 obtain⟨g,c,ev,_,_,hc⟩:=fM h e;refine⟨_,c,ev,fun k hk=>⟨g,rfl,?_⟩⟩;have h0:=hc k (by omega);rw[List.getElem?_eq_getElem (by simp[bg,onL];exact hk)] at h0;rw[uH hk];simpa [bg,onL] using h0
def Pq(R:List Rt)(l:List Clk):Prop:=∀i (h:i<l.length),m9 (cZ R i) l[i]=true
theorem Pz(l:List Clk)(R:List Rt)(al a1 a2:Option Addr)(cl c1 c2:Nat)(w:World)(h:ag 5 cY w al l)(hl:l.length<=16)(hR:qm R)(hRl:R.length=l.length)(hr:xQ w a1 R)(ho:Ea w a2 R):
  Calls Tryz.prog 146 #[.slice al l.length cl,.slice a1 l.length c1,.slice a2 l.length c2] w (aN w (.bool (decide (Pq R l)))):=by
 have H:=aa h;have HR:=aa hr;have HO:=aa ho;have RG:=aa hR;have HL:=aa hRl;clear h hr ho hR hRl;go_enter Tryz.func146,Tryz.ntmps146;go_wp2_with fail;go_loopw [11] (fun i wr=>∃k:Nat,k<=l.length/\i= .int .i64 k/\(∀j (h:j<l.length),j<k->m9 (cZ R j) l[j]=true)/\Gr w wr) (fun i _=>l.length-(intOf i).toNat);case atStart=>exact⟨0,Nat.zero_le _,rfl,fun j _ h=>absurd h (by omega),gfl _⟩
 case round=>
  obtain⟨k,hk,rfl,aH,hg⟩:=hrel;have HA:=aa aH;have HG:=aa hg;clear aH hg;obtain⟨wo,rfl⟩:∃wo:World,wo=wr:=⟨_,rfl⟩;by_cases aA:k<l.length
  ·obtain⟨b,o,rfl,⟨d0,_⟩,⟨ap,cp,d1,_⟩,⟨ac,cc,d2,_⟩,⟨d3,_⟩,⟨d4,_⟩⟩:=bj H.out HG.out k aA;have gI:k<R.length:=by have:=HL.out;omega
   obtain⟨g1,rfl,r0,r1⟩:=(HR.out.gr HG.out) k gI;obtain⟨g2,rfl,r2⟩:=(HO.out.gr HG.out) k gI;have e:=uH gI;have jv:=RG.out k gI;rw[<-e] at jv;obtain⟨r,qB⟩:∃r,cZ R k=r:=⟨_,rfl⟩;rw[qB] at r0 r1 r2 jv;have gh1:=ae r0;have gh2:=ae r2;have k2:(k:Int)<l.length:=by omega
   have RR:=aa qB;have NX:Hid (m9 r l[k]=true->∀j (h:j<l.length),j<k+1->m9 (cZ R j) l[j]=true):=aa fun q j h1 hj=>by
    by_cases e:j=k
    ·subst e;rw[RR.out];exact q
    exact HA.out j h1 (by omega)
   clear qB e;cases r with
   |none=>
    simp only[fW,gC,Option.isSome_none] at r0 r1 r2;clear jv;go_wp2_with fail;refine ar (by kernel_rfl) (by kernel_rfl) ?_;repeat(go_big_quiet_step (fail))
    refine wpQuiet_nil ?_;rintro _ ⟨⟨O,d⟩,rfl⟩;go_wp2_with fail;go_roundw;case rel=>exact⟨k+1,by omega,by go_num,NX.out rfl,(HG.out.alloc _).xt _ _⟩
    case measure=>simp[intOf];omega
   |some nd=>
    obtain⟨n,d⟩:=nd;obtain⟨hv,gc⟩:=jv n d rfl;obtain⟨v1,v2,v3,v4,v5⟩:=dX hv;simp only[fW,gC,Option.isSome_some] at r0 r1 r2;clear hv v5 jv;by_cases h0:l[k].high=0
    ·have hb:(l[k].high !=0)=false:=(by simp[h0]);have NX3:=aa (NX.out (by simp[m9,h0]));clear h0 NX;go_wp2_with fail;refine ar (by kernel_rfl) (by kernel_rfl) ?_;repeat(go_big_quiet_step (fail))
     refine wpQuiet_nil ?_;rintro _ ⟨⟨O,d⟩,rfl⟩;go_wp2_with fail;go_roundw;case rel=>exact⟨k+1,by omega,by go_num,NX3.out,(HG.out.alloc _).xt _ _⟩
     case measure=>simp[intOf];omega
    have hb:(l[k].high !=0)=true:=(by simp[h0]);have px:(l[k].high==0)=false:=(by simp[h0]);cases hq:fB n d l[k].low l[k].high with
    |true=>
     have NX3:=aa (NX.out (by simp[m9,hq]));have wq:=nC n d l[k].low l[k].high;rw[hq] at wq;clear h0 NX hq px;go_wp2_with fail;refine ar (by kernel_rfl) (by kernel_rfl) ?_;repeat(go_big_quiet_step (first|(go_at_call 83;exact bJ (wq _ (by omega) (by omega) (by omega) (by omega)))))
     refine wpQuiet_nil ?_;rintro _ ⟨⟨O,d⟩,rfl⟩;go_wp2_with fail;go_roundw;case rel=>exact⟨k+1,by omega,by go_num,NX3.out,(HG.out.alloc _).xt _ _⟩
     case measure=>simp[intOf];omega
    |false=>
     have bad:Hid (¬Pq R l):=aa fun q=>by have:=q k aA;rw[RR.out] at this;simp[m9,px,hq] at this
     have wq:=nC n d l[k].low l[k].high;rw[hq] at wq;clear h0 NX hq px;go_wp2_with fail;refine ar (by kernel_rfl) (by kernel_rfl) ?_;repeat(go_big_quiet_step (first|(go_at_call 83;exact bJ (wq _ (by omega) (by omega) (by omega) (by omega)))))
     refine wpQuiet_nil ?_;rintro _ ⟨⟨O,d⟩,rfl⟩;go_wp2_with fail;go_ret;exact⟨ai (dfx bad.out).symm,(HG.out.alloc _).xt _ _⟩
  have good:Hid (Pq R l):=aa fun j h=>HA.out j h (by omega);go_wp2_with fail;go_ret;exact⟨ai (dtx good.out).symm,HG.out⟩
theorem IJ(l:List Clk)(s:List Int)(al aS:Option Addr)(cl cs:Nat)(w:World)(h:ag 5 cY w al l)(hs:ag 1 RI w aS s)(hc:bA l=0)(aZ:aI l s):
  Calls Tryz.prog 91 #[.slice al l.length cl,.slice aS s.length cs] w (aN w (.bool true)):=by
 have hl:=cg (bm hc).1;have rc:=j4 l al cl w h (by unfold Fit;omega);rw[hc] at rc;have RC:=aa rc;have H:=aa h;have HS:=aa hs;have HT:=aa aZ;have HSL:=aa aZ.1;have NB:=aa (bm hc).1;rw[aZ.1];clear rc h hs aZ hc;go_enter Tryz.func91,Tryz.ntmps91;go_wp2_with fail;refine RC.out.mono ?_;rintro e w1 ⟨rfl,bD⟩;have G1:=aa bD;clear bD RC;go_wp2_with fail;go_loopw [19] (fun i wr=>∃k:Nat,k<=l.length/\i= .int .i64 k/\Gr w wr) (fun i _=>l.length-(intOf i).toNat);case atStart=>exact⟨0,Nat.zero_le _,rfl,G1.out⟩
 case round=>
  obtain⟨k,hk,rfl,hg⟩:=hrel;have HG:=aa hg;clear hg;obtain⟨wo,rfl⟩:∃wo:World,wo=wr:=⟨_,rfl⟩;by_cases aA:k<l.length
  ·have kJ:k<s.length:=by have:=HSL.out;omega
   obtain⟨k0,k1⟩:=HT.out.2 k aA kJ;obtain⟨fp,fc⟩:=fR NB.out aA;obtain⟨b,o,rfl,⟨d0,_⟩,⟨ap,cp,d1,_⟩,⟨ac,cc,d2,_,d2f,_⟩,⟨d3,_⟩,⟨d4,_⟩⟩:=bj H.out HG.out k aA;obtain⟨bs,os,rfl,⟨q1,_⟩⟩:=(HS.out.giI HG.out).one k kJ;have jm:=ae q1;have k2:(k:Int)<l.length:=by omega
   unfold Fit at d2f;have e1:decide (s[k]<0)=false:=dfx (by omega);have e2:decide ((l[k].choices.length:Int)<=s[k])=false:=dfx (by omega);go_wp2_with fail;refine ar (by kernel_rfl) (by kernel_rfl) ?_;repeat(go_big_quiet_step (fail))
   refine wpQuiet_nil ?_;rintro _ ⟨⟨O,d⟩,rfl⟩;go_wp2_with fail;go_roundw;case rel=>exact⟨k+1,by omega,by go_num,(HG.out.alloc _).xt _ _⟩
   case measure=>simp[intOf];omega
  go_wp2_with fail;go_ret;exact⟨rfl,HG.out⟩
theorem wh(l:List Clk)(ms:List Lmt)(s:List Int)(al aS am:Option Addr)(cl cs cm:Nat)(w:World)(h:ag 5 cY w al l)(hs:ag 1 RI w aS s)(hm:ag 3 lQ w am ms)(hc:bA l=0)(aZ:aI l s)(kL:ms.length<=32/\∀j (h:j<ms.length),lF l ms[j]):
  Calls Tryz.prog 94 #[.slice al l.length cl,.slice aS s.length cs,.slice am ms.length cm] w (aN w (.bool (aG l ms s))):=by
 have hl:=cg (bm hc).1;have hRl:(rts l s).length=l.length:=kt _ _ aZ.1.symm;have ST:=aa (sq l s al aS cl cs w h hs hc aZ);rw[aZ.1] at ST;have RG:=aa (pY hc aZ);have H:=aa h;have HM:=aa hm;have LM:=aa kL.2;have Eg:=kL.1;obtain⟨R,eR⟩:∃R,rts l s=R:=⟨_,rfl⟩;have ST2:Hid (Calls Tryz.prog 21 #[.slice al l.length cl,.slice aS l.length cs] w (fun e w'=>∃v1 v2,e= .returned (.tuple #[v1,v2])/\w'.ownsRow w.heap.size 57 2 v1 l.length (gu (R.map prR))/\w'.ownsRow w.heap.size 4 1 v2 l.length (bg (onL R))/\Gr w w')):=aa (by rw[<-eR];exact ST.out);rw[eR] at RG hRl;have cal:aG l ms s=decide (wO R l ms):=by rw[<-eR];rfl
 have HL:=aa hRl;rw[cal,aZ.1];clear cal ST h hs hm hc aZ kL eR hRl;go_enter Tryz.func94,Tryz.ntmps94;go_wp2_with fail;refine ST2.out.mono ?_;rintro e w1 ⟨v1,v2,rfl,wL,wY,hg⟩;obtain⟨a1,c1,rfl,hr⟩:=nD HL.out wL;obtain⟨a2,c2,rfl,nG⟩:=Cn HL.out wY;have HR:=aa hr;have HO:=aa nG;have G1:=aa hg;clear wL wY hr nG hg ST2;go_wp2_with fail;go_loopw [19] (fun i wr=>∃k:Nat,k<=ms.length/\i= .int .i64 k/\(∀j (h:j<ms.length),j<k->sO (cZ R ms[j].clock.toNat) 0 ms[j].high=true)/\Gr w1 wr) (fun i _=>ms.length-(intOf i).toNat);case atStart=>exact⟨0,Nat.zero_le _,rfl,fun j _ h=>absurd h (by omega),gfl _⟩
 case round=>
  obtain⟨k,hk,rfl,aH,hg⟩:=hrel;have HA:=aa aH;have HG:=aa hg;clear aH hg;obtain⟨wo,rfl⟩:∃wo:World,wo=wr:=⟨_,rfl⟩;by_cases aA:k<ms.length
  ·obtain⟨b,o,rfl,⟨d0,_⟩,⟨d1,_⟩,⟨d2,_⟩⟩:=iR HM.out (G1.out.trans HG.out) k aA;obtain⟨u0,u1,_⟩:=LM.out k aA;obtain⟨q,hq⟩:∃q:Nat,ms[k].clock=q:=⟨_,(Int.toNat_of_nonneg u0).symm⟩;have eq:ms[k].clock.toNat=q:=by omega
   have yb:q<R.length:=by have:=HL.out;omega
   obtain⟨g1,rfl,r0,r1⟩:=(HR.out.gr HG.out) q yb;obtain⟨g2,rfl,r2⟩:=(HO.out.gr HG.out) q yb;have e:=uH yb;have jv:=RG.out q yb;rw[<-e] at jv;obtain⟨r,qB⟩:∃r,cZ R q=r:=⟨_,rfl⟩;rw[qB] at r0 r1 r2 jv;have gh1:=ae r0;have gh2:=ae r2;have q2:(q:Int)<l.length:=by omega
   have RR:Hid (cZ R ms[k].clock.toNat=r):=aa (by rw[eq];exact qB);have NX:Hid (sO r 0 ms[k].high=true->∀j (h:j<ms.length),j<k+1->sO (cZ R ms[j].clock.toNat) 0 ms[j].high=true):=aa fun q j h1 hj=>by
    by_cases e:j=k
    ·subst e;rw[RR.out];exact q
    exact HA.out j h1 (by omega)
   have BAD:Hid (sO r 0 ms[k].high=false->¬wO R l ms):=aa fun q h=>by have:=h.2 k aA;rw[RR.out,q] at this;cases this
   rw[hq] at d0;clear qB e eq u0 u1 hq;cases r with
   |none=>
    simp only[fW,gC,Option.isSome_none] at r0 r1 r2;have bad:=aa (BAD.out rfl);clear jv NX BAD;go_wp2_with fail;refine ar (by kernel_rfl) (by kernel_rfl) ?_;repeat(go_big_quiet_step (fail))
    refine wpQuiet_nil ?_;rintro _ ⟨⟨O,d⟩,rfl⟩;go_wp2_with fail;go_ret;exact⟨ai (dfx bad.out).symm,((G1.out.trans HG.out).alloc _).xt _ _⟩
   |some nd=>
    obtain⟨n,d⟩:=nd;obtain⟨hv,gc⟩:=jv n d rfl;obtain⟨v1,v2,v3,v4,v5⟩:=dX hv;simp only[fW,gC,Option.isSome_some] at r0 r1 r2;clear hv v5 jv;cases hq:fB n d 0 ms[k].high with
    |true=>
     have NX3:=aa (NX.out (by simp[sO,hq]));have wq:=nC n d 0 ms[k].high;rw[hq] at wq;clear NX BAD hq;go_wp2_with fail;refine ar (by kernel_rfl) (by kernel_rfl) ?_;repeat(go_big_quiet_step (first|(go_at_call 83;exact bJ (wq _ (by omega) (by omega) (by omega) (by omega)))))
     refine wpQuiet_nil ?_;rintro _ ⟨⟨O,d⟩,rfl⟩;go_wp2_with fail;go_roundw;case rel=>exact⟨k+1,by omega,by go_num,NX3.out,(HG.out.alloc _).xt _ _⟩
     case measure=>simp[intOf];omega
    |false=>
     have bad:=aa (BAD.out (by simp[sO,hq]));have wq:=nC n d 0 ms[k].high;rw[hq] at wq;clear NX BAD hq;go_wp2_with fail;refine ar (by kernel_rfl) (by kernel_rfl) ?_;repeat(go_big_quiet_step (first|(go_at_call 83;exact bJ (wq _ (by omega) (by omega) (by omega) (by omega)))))
     refine wpQuiet_nil ?_;rintro _ ⟨⟨O,d⟩,rfl⟩;go_wp2_with fail;go_ret;exact⟨ai (dfx bad.out).symm,((G1.out.trans HG.out).alloc _).xt _ _⟩
  have HA2:Hid (∀j (h:j<ms.length),sO (cZ R ms[j].clock.toNat) 0 ms[j].high=true):=aa fun j h=>HA.out j h (by omega);have OW:=Pz l R al a1 a2 cl c1 c2 wo (bj H.out (G1.out.trans HG.out)) (by omega) RG.out HL.out (HR.out.gr HG.out) (HO.out.gr HG.out);have OW':=aa OW;have EQ:Hid (decide (Pq R l)=decide (wO R l ms)):=aa (by rw[decide_eq_decide];exact⟨fun q=>⟨q,HA2.out⟩,fun q=>q.1⟩);clear HA OW;go_wp2_with fail;refine OW'.out.mono ?_;rintro e w5 ⟨rfl,jl⟩;have G5:=aa ((G1.out.trans HG.out).trans jl);clear jl;go_wp2_with fail;go_ret;exact⟨ai EQ.out,G5.out⟩
theorem Nb(l:List Clk)(ms:List Lmt)(s:List Int)(al aS am:Option Addr)(cl cs cm:Nat)(w:World)(bH:Env w l ms al am)(hs:ag 1 RI w aS s)(aZ:aI l s):
  Calls Tryz.prog 112 #[.slice al l.length cl,.slice aS s.length cs,.slice am ms.length cm] w (aN w (.bool (aG l ms s))):=by
 have hl:=cg (bm bH.chk).1;have ff:Fit l.length:=by unfold Fit;omega
 have fs:Fit s.length:=by rw[aZ.1];exact ff
 have fm:Fit ms.length:=by have:=bH.lims.1;unfold Fit;omega
 have S1:Hid (∀W,Gr w W->Calls Tryz.prog 110 #[.slice al l.length cl,.slice am ms.length cm] W (aN W (.bool true))):=aa fun W hW=>by have:=qF l ms al am cl cm W (bj bH.clks hW) ff (iR bH.lmts hW) fm;rwa [dtx (show fC l ms from⟨bH.chk,bH.lims.1,bH.lims.2⟩)] at this
 have S2:Hid (∀W,Gr w W->Calls Tryz.prog 72 #[.slice al l.length cl,.slice aS s.length cs] W (aN W (.bool true))):=aa fun W hW=>by have:=js l s al aS cl cs W (bj bH.clks hW) (hs.giI hW) ff fs;rwa [dtx ⟨bH.chk,aZ⟩] at this
 have S3:=aa (fun W (hW:Gr w W)=>yM l ms s al aS am cl cs cm W (bj bH.clks hW) (hs.giI hW) (iR bH.lmts hW) bH.chk aZ bH.lims (bH.off.gr hW));clear bH hs aZ ff fs fm;go_enter Tryz.func112,Tryz.ntmps112;go_wp2_with fail;refine(S1.out _ (gfl _)).mono ?_;rintro e w1 ⟨rfl,bD⟩;have G1:=aa bD;clear bD;go_wp2_with fail;refine(S2.out _ G1.out).mono ?_;rintro e w2 ⟨rfl,bY⟩;have G2:=aa (G1.out.trans bY);clear bY;go_wp2_with fail;refine(S3.out _ G2.out).mono ?_;rintro e w3 ⟨rfl,cG⟩;have G3:=aa (G2.out.trans cG);clear cG;go_wp2_with fail;go_ret;exact⟨rfl,G3.out⟩
theorem sC{P:Program}(w:World){ops:Array Oper}{rest:List Oper}{o:Oper}{a:Act}{Q:Exit->Act->World->Prop}(jv:o.guard=none)(s x:Operand)(t:TypeId)
  (ho:o.op= .call {callee:= .builtin .append,args:= #[s,x],argTypes:= #[t,t]}) (e:TypeId) (i:TypeInfo) (z:Value) (bytes:Nat) (ht:P.underlying t=some (.slice e)) (hi:P.info? e=some i) (hz:i.zero=some z) (hs:i.size=1) (hb:i.bytes=bytes)
  (b ad:Addr) (m c:Nat) (dZ:List Value) (hv:a.eval s= .slice (some b) 0 0) (hx:a.eval x= .slice (some ad) m c) (hl:dZ.length=m) (xg:∀j u,dZ[j]?=some u->w.cell? (ad.add j)=some u) (hm:0<m) (v8:m<=1000000) (lB:bytes<=8) (H:Nat) (hH:w.heap.size=H)
  (h:∀cap Z,m<=cap->wpList P ops Q rest (a.put o.dst (.slice (some ⟨H,0,none⟩) m cap)) (w.drew.alloc (.cells (dZ.toArray++Z) e))):wpList P ops Q (o::rest) a w:=by
 subst hH;refine wpList_plain jv fun K hK=>?_;obtain⟨cap,Z,hc,hr⟩:=vA (P:=P) w t o.type e i z bytes ht hi hz hs hb b ad m c dZ hl xg hm v8 lB;unfold Oper.wp execOp;simp only[ho,resolve,invoke,builtin,Sem.run_bind,Sem.run_pure,Result.andThen_ok,List.map_toArray,List.map_cons,List.map_nil,hv,hx,hr];exact hK _ _ (h cap Z hc)
def xG(x:Lmt):List Value:= [.int .i64 x.clock,.int .i64 x.low,.int .i64 x.high]
theorem WE:(Tryz.prog.info? 155).map (fun i=>(i.zero,i.size,i.bytes))=some (some (.agg #[.int .i64 0,.int .i64 0,.int .i64 0]),3,24):=by kernel_rfl
theorem Tu:(Tryz.prog.info? 22).map (fun i=>(i.zero,i.size,i.bytes))=some (some (.slice none 0 0),1,24):=by kernel_rfl
def LX(l:List Clk)(ms:List Lmt):Prop:=ms.length<=32/\∀j (h:j<ms.length),lF l ms[j]
theorem J7{w:World}{base:Nat}{v:Value}{ms:List Lmt}{l:List Clk}(h:w.ownsRow base 155 3 v ms.length (ms.flatMap xG))(hl:l.length<=16)(hm:LX l ms):∃a c,v= .slice a ms.length c/\ag 3 lQ w a ms:=by
 rcases Nat.eq_zero_or_pos ms.length with e|e
 ·have:ms= []:=List.eq_nil_of_length_eq_zero e;subst this;obtain⟨a,c,e⟩:=be h;exact⟨a,c,e,ag.nil _ _ _ _⟩
 obtain⟨g,cap,e1,h1,_,hc⟩:=fM h e;refine⟨_,cap,e1,fun k hk=>⟨g,0,rfl,?_⟩⟩;have hf:=fun j (hj:j<3)=>nJ xG 3 (fun _=>rfl) ms k j hk hj;have h2:∀j,j<3->w.cell? ⟨g,k*3+j,none⟩=(xG ms[k])[j]?:=fun j hj=>by rw[hc (k*3+j) (by omega),hf j hj]
 obtain⟨q0,q1,q2,q3,q4⟩:=hm.2 k hk;rw[Nat.zero_add];exact⟨⟨h2 0 (by omega),by unfold aK;omega⟩,⟨h2 1 (by omega),by unfold aK;omega⟩,⟨h2 2 (by omega),by unfold aK;omega⟩⟩
structure CO(b len:Nat)(w:World)(ts:List CT)(g c:Nat)(f:List Int)(af:Option Addr)(R:List Rt)(v1 v2:Value)(wr:World):Prop where
 own:wr.ownsRow w.heap.size 130 5 (.slice (some ⟨g,0,none⟩) ts.length c) ts.length (ts.flatMap iE)
 rows:dF w.heap.size wr ts
 f:bt w.heap.size wr 3 (an f) af
 r1:wr.ownsRow w.heap.size 57 2 v1 ts.length (gu (R.map prR))
 r2:wr.ownsRow w.heap.size 4 1 v2 ts.length (bg (onL R))
 mv:Mv b len w wr
section
variable {b len:Nat} {w:World} {ts:List CT} {g c:Nat} {f:List Int} {af:Option Addr} {R:List Rt} {v1 v2:Value} {wr w':World}
end
structure OT where
 t:List Int
 B:Nat
 c:Nat
def Jy(L:Nat)(o:OT):Value:= .slice (some ⟨o.B,0,none⟩) L o.c
def OsOk(base:Nat)(w:World)(l:List Clk)(ms:List Lmt)(os:List OT):Prop:=∀o∈os,bd w o.B 3 (an o.t)/\base<=o.B/\aI l o.t/\aG l ms o.t=true
theorem U1(n d:Int)(h0:0<=n)(h1:1<=d):0<=qJ n d:=by
 unfold qJ;split
 ·exact Int.ediv_nonneg h0 (by omega)
 omega
theorem TB(n d:Int)(h0:0<=n)(h1:1<=d)(h2:n<=144115188075855872):qJ n d<=144115188075855872:=by
 unfold qJ;split
 ·have:=(dq n d h0 h1).2;omega
 omega
def PT(w:World)(s:List Int)(B:Nat)(w':World):Prop:=bd w' B 3 (an s)/\w.heap.size<=B/\Gr w w'
theorem xA(s:List Int)(u:Nat)(v:Int)(aS:Option Addr)(cs:Nat)(w:World)(hs:ag 1 RI w aS s)(hu:u<s.length)(hl:s.length<=16):
  Calls Tryz.prog 92 #[.slice aS s.length cs,.int .i64 u,.int .i64 v] w fun e w'=>∃B c,e= .returned (.slice (some ⟨B,0,none⟩) s.length c)/\PT w (s.set u v) B w':=by
 obtain⟨i0,hi,dt,da,cN⟩:=info_parts eS;obtain⟨bs,os,rfl,Rw⟩:=hs 0 (by omega);have CS:=aa (rA (b:=bs) (o:=os) (s:=none) (vs:=s) (w:=w) hs);have gE:Gr w (w.alloc (.cells #[] 3)):=(gfl _).alloc _;have CS1:Hid (∀j u,(an s)[j]?=some u->(w.alloc (.cells #[] 3)).cell? ((⟨bs,os,none⟩:Addr).add j)=some u):=aa (fun j u hu=>aB gE (CS.out j u hu));clear Rw hs gE CS;go_enter Tryz.func92,Tryz.ntmps92;go_wp2_with (first
  |(at_builtin;refine sC _ rfl _ _ 22 rfl 3 i0 (.int .i64 0) 8 Tryz.underlying22 hi dt da cN ⟨w.heap.size,0,none⟩ ⟨bs,os,none⟩ s.length cs (an s) rfl rfl (by rw[dp]) CS1.out (by omega) (by omega) (by omega) (w.heap.size+1) (by simp) ?_;intro cap Z la
    have R2:=aa (yP (w.alloc (.cells #[] 3)).drew (an s) Z 3 (w.heap.size+1) (by simp[World.drew]));have G2:Hid (Gr w ((w.alloc (.cells #[] 3)).drew.alloc (.cells ((an s).toArray++Z) 3))):=aa (((gfl _).alloc _).drew.alloc _);obtain⟨N2,hN2⟩:∃N2:Nat,Hid (w.heap.size+1=N2):=⟨_,aa rfl⟩;rw[hN2.out] at R2 ⊢;obtain⟨W2,hW2⟩:∃W2:World,((w.alloc (.cells #[] 3)).drew.alloc (.cells ((an s).toArray++Z) 3))=W2:=⟨_,rfl⟩;rw[hW2] at R2 G2 ⊢;clear hW2;have hx:=R2.out.has;have hc:=R2.out.cell u (by rw[dp];exact hu);have hfz:=R2.out.free u)
  |fail)
 go_ret;exact⟨N2,cap,rfl,by have:=R2.out.iset u hu v;exact this,by have:=hN2.out;omega,G2.out.setc (by have:=hN2.out;omega)⟩
theorem KV(l:List Clk)(s:List Int)(u v:Nat)(al aS:Option Addr)(cl cs:Nat)(w:World)(h:ag 5 cY w al l)(hs:ag 1 RI w aS s)(hc:bA l=0)(aZ:aI l s)(hu:u<l.length)(hv:(v:Int)<kOf l u):
  Calls Tryz.prog 30 #[.slice al l.length cl,.slice aS s.length cs,.agg #[.int .i64 1,.int .i64 u,.int .i64 v]] w fun e w'=>∃B c,e= .returned (.tuple #[.slice (some ⟨B,0,none⟩) s.length c,.int .i64 0])/\PT w (s.set u v) B w':=by
 have hl:=cg (bm hc).1;have rc:=fun W (hW:Gr w W)=>j4 l al cl W (bj h hW) (by unfold Fit;omega);rw[hc] at rc;have RC:=aa rc;have ST:=aa (fun W (hW:Gr w W)=>IJ l s al aS cl cs W (bj h hW) (hs.giI hW) hc aZ);have CH:=aa (fun W (hW:Gr w W)=>xA s u v aS cs W (hs.giI hW) (by rw[aZ.1];exact hu) (by rw[aZ.1];exact hl));have H:=aa h;have NB:=aa (bm hc).1;rw[lu hu] at hv;clear h hs hc rc aZ;go_enter Tryz.func30,Tryz.ntmps30;have RW:=aa (Row.new w #[.int .i64 1,.int .i64 u,.int .i64 v] 42);have g0:Hid (Gr w (w.alloc (.cells #[.int .i64 1,.int .i64 u,.int .i64 v] 42))):=aa ((gfl _).alloc _);go_wp2_with fail;refine(RC.out _ g0.out).mono ?_;rintro e w1 ⟨rfl,bD⟩;have R1:=aa (RW.out.gr bD);have G1:=aa (g0.out.trans bD);obtain⟨P,hP⟩:∃P,w.heap.size=P:=⟨_,rfl⟩;rw[hP] at R1 ⊢;clear bD RW g0;go_wp2_with fail;refine(ST.out w1 G1.out).mono ?_;rintro e w2 ⟨rfl,bY⟩;have R2:=aa (R1.out.gr bY);have G2:=aa (G1.out.trans bY);have c0:w2.cell? ⟨P,0,none⟩=some (.int .i64 1):=R2.out.cell 0 (by simp);have c1:w2.cell? ⟨P,1,none⟩=some (.int .i64 u):=R2.out.cell 1 (by simp);have c2:w2.cell? ⟨P,2,none⟩=some (.int .i64 v):=R2.out.cell 2 (by simp);obtain⟨fp,fc⟩:=fR NB.out hu;obtain⟨b,o,rfl,⟨d0,_⟩,⟨ap,cp,d1,_⟩,⟨ac,cc,d2,_,d2f,_⟩,⟨d3,_⟩,⟨d4,_⟩⟩:=bj H.out G2.out u hu;have hx:=R2.out.has;have k2:(u:Int)<l.length:=by omega
 have e1:decide ((u:Int)<0)=false:=dfx (by omega);have e2:decide (l.length<=u)=false:=dfx (by omega);have e3:decide ((v:Int)<0)=false:=dfx (by omega);have e4:decide (l[u].choices.length<=v)=false:=dfx (by omega);clear bY R1 G1 hP;go_wp2_with fail
 go_quiet (fail)
 go_wp2_with fail;refine(CH.out _ (G2.out.drewN _)).mono ?_;rintro e w3 ⟨B,c,rfl,hr,hb,cG⟩;have HR:=aa hr;have G3:=aa ((G2.out.drewN _).trans cG);clear hr cG;go_wp2_with fail;go_ret2;exact⟨B,c,rfl,HR.out,by have:=G2.out.size;simp at hb;omega,G3.out⟩
theorem JT(l:List Clk)(s:List Int)(u v:Nat)(al aS:Option Addr)(cl cs:Nat)(w:World)(h:ag 5 cY w al l)(hs:ag 1 RI w aS s)(hc:bA l=0)(aZ:aI l s)(hu:u<l.length)(hv:(v:Int)<kOf l u):
  Calls Tryz.prog 121 #[.slice al l.length cl,.slice aS s.length cs,.agg #[.int .i64 1,.int .i64 u,.int .i64 v]] w fun e w'=>∃B c,e= .returned (.tuple #[.slice (some ⟨B,0,none⟩) s.length c,.int .i64 0])/\PT w (s.set u v) B w':=by
 have hl:=cg (bm hc).1;have HSL:=aa aZ.1;have Hs:0<s.length:=by rw[aZ.1];omega
 have hs16:s.length<=16:=by rw[aZ.1];omega
 have hus:u<s.length:=by rw[aZ.1];omega
 have rc:=fun W (hW:Gr w W)=>ni l al cl W (bj h hW) (by unfold Fit;omega);rw[hc] at rc;have RC:=aa rc;have ST:Hid (∀W,Gr w W->Calls Tryz.prog 72 #[.slice al l.length cl,.slice aS s.length cs] W (aN W (.bool true))):=aa fun W hW=>by have:=js l s al aS cl cs W (bj h hW) (hs.giI hW) (by unfold Fit;omega) (by unfold Fit;omega);rwa [dtx ⟨hc,aZ⟩] at this
 obtain⟨bs,os,rfl,_⟩:=hs 0 Hs;have HS:=aa hs;have H:=aa h;have NB:=aa (bm hc).1;rw[lu hu] at hv;have jV:=run_make_row' (P:=Tryz.prog) 22 3 (.int .i64 0) 8 Tryz.underlying22 eS rfl .i64 .i64 s.length (by omega) (by omega);have iB:(Tryz.prog.info? 3).map (·.size)=some 1:=by obtain⟨i0,hi,dt,da,cN⟩:=info_parts eS;rw[hi];simp[da]
 clear h hs hc rc aZ;go_enter Tryz.func121,Tryz.ntmps121;have RW:=aa (Row.new w #[.int .i64 1,.int .i64 u,.int .i64 v] 42);have g0:Hid (Gr w (w.alloc (.cells #[.int .i64 1,.int .i64 u,.int .i64 v] 42))):=aa ((gfl _).alloc _);go_wp2_with fail;refine(RC.out _ g0.out).mono ?_;rintro e w1 ⟨rfl,bD⟩;have R1:=aa (RW.out.gr bD);have G1:=aa (g0.out.trans bD);obtain⟨P,hP⟩:∃P,w.heap.size=P:=⟨_,rfl⟩;rw[hP] at R1 ⊢;clear bD RW g0;go_wp2_with fail;refine(ST.out w1 G1.out).mono ?_;rintro e w2 ⟨rfl,bY⟩;have R2:=aa (R1.out.gr bY);have G2:=aa (G1.out.trans bY);have c0:w2.cell? ⟨P,0,none⟩=some (.int .i64 1):=R2.out.cell 0 (by simp);have c1:w2.cell? ⟨P,1,none⟩=some (.int .i64 u):=R2.out.cell 1 (by simp);have c2:w2.cell? ⟨P,2,none⟩=some (.int .i64 v):=R2.out.cell 2 (by simp);obtain⟨fp,fc⟩:=fR NB.out hu;obtain⟨b,o,rfl,⟨d0,_⟩,⟨ap,cp,d1,_⟩,⟨ac,cc,d2,_,d2f,_⟩,⟨d3,_⟩,⟨d4,_⟩⟩:=bj H.out G2.out u hu;have hx:=R2.out.has;have k2:(u:Int)<l.length:=by omega
 have e1:decide ((u:Int)<0)=false:=dfx (by omega);have e2:decide (l.length<=u)=false:=dfx (by omega);have e3:decide ((v:Int)<0)=false:=dfx (by omega);have e4:decide (l[u].choices.length<=v)=false:=dfx (by omega);have PZ:Hid (w.heap.size=P):=aa hP;clear bY R1 G1 hP;go_wp2_with fail
 go_quiet (fail)
 have G3:Hid (Gr w (w2.drewN nq)):=aa (G2.out.drewN _);have R3:=aa (R2.out.gr ((gfl w2).drewN nq));have hz3:Hid ((w2.drewN nq).heap.size=w2.heap.size):=aa (by simp);obtain⟨W3,hW3⟩:∃W3:World,w2.drewN nq=W3:=⟨_,rfl⟩;rw[hW3] at G3 R3 hz3;rw[hW3];clear hW3 c0 c1 c2 hx R2 G2;obtain⟨W4,hW4⟩:∃W4:World,Hid (W4=(W3.alloc (.cells (madeCells #[.int .i64 0] s.length) 3)).setRow W3.heap.size ((madeCells #[.int .i64 0] s.length).toList.take 0++an s++(madeCells #[.int .i64 0] s.length).toList.drop (0+(an s).length)).toArray):=⟨_,aa rfl⟩;have gy:Hid ((W3.alloc (.cells (madeCells #[.int .i64 0] s.length) 3)).heap[W3.heap.size]?=some (.cells (madeCells #[.int .i64 0] s.length) 3 (0,0))):=aa (heap_alloc_new W3 _);have hmz:Hid ((madeCells #[Value.int .i64 0] s.length).size=s.length):=aa (by rw[<-Array.length_toList,tw];simp);have R4:Hid (bd W4 W3.heap.size 3 (an s)):=aa (by rw[hW4.out];refine⟨[],?_⟩;unfold Row;rw[setRow_heap _ _ _ _ _ _ gy.out];simp[dp,tw])
 have uW:Gr W3 W4:= .of_below (by rw[hW4.out];refine below_setRow ((Gr.refl W3).alloc _).below (Nat.le_refl _) _)
 have G4:=aa (G3.out.trans uW);have Q4:=aa (R3.out.gr uW);have c1:W4.cell? ⟨P,1,none⟩=some (.int .i64 u):=Q4.out.cell 1 (by simp);have c2:W4.cell? ⟨P,2,none⟩=some (.int .i64 v):=Q4.out.cell 2 (by simp);have Gb:Hid (∀j x,(an s)[j]?=some x->(W3.alloc (.cells (madeCells #[.int .i64 0] s.length) 3)).cell? ((⟨bs,os,none⟩:Addr).add j)=some x):=aa (rA (HS.out.giI (G3.out.alloc _)));obtain⟨S3,hS3⟩:∃S3,Hid (W3.heap.size=S3):=⟨_,aa rfl⟩;have jm:=Q4.out.has;have hS3':=hS3.out;have ly:=R4.out.has;have hc:=R4.out.cell u (by rw[dp];exact hus);have hfz:=R4.out.free u;rw[hS3.out] at ly hc hfz;have bS:¬(P=S3):=by have h1:=R3.out.has;have h2:=hS3.out;unfold Has at h1;omega
 have Ah:=run_copy_row (P:=Tryz.prog) (W3.alloc (.cells (madeCells #[.int .i64 0] s.length) 3)) 22 22 3 3 W3.heap.size 0 s.length s.length ⟨bs,os,none⟩ s.length cs (madeCells #[.int .i64 0] s.length) 3 (an s) Tryz.underlying22 iB gy.out (by rw[dp];exact(Nat.min_self _).symm) Gb.out (by rw[dp,hmz.out];omega) (gL s);rw[<-hW4.out] at Ah;rw[hS3.out] at Ah;clear hW4 gy hmz Gb;go_wp2_with fail;go_ret2;refine⟨_,s.length,rfl,?_,?_,?_⟩
 ·have:=R4.out.iset u hus v;rw[hS3.out] at this;exact this
 ·have h1:=G3.out.size;have h2:=hS3.out;omega
 exact G4.out.setc (by have h1:=G3.out.size;have h2:=hS3.out;omega)
theorem Sf(s:List Int)(aS:Option Addr)(cs:Nat)(w:World)(hs:ag 1 RI w aS s)(h0:0<s.length)(hl:s.length<=16):
  Calls Tryz.prog 120 #[.slice aS s.length cs] w fun e w'=>∃B c,e= .returned (.slice (some ⟨B,0,none⟩) s.length c)/\PT w s B w':=by
 obtain⟨i0,hi,dt,da,cN⟩:=info_parts eS;obtain⟨bs,os,rfl,Rw⟩:=hs 0 h0;have CS:=aa (rA (b:=bs) (o:=os) (s:=none) (vs:=s) (w:=w) hs);have gE:Gr w (w.alloc (.cells #[] 3)):=(gfl _).alloc _;have CS1:Hid (∀j u,(an s)[j]?=some u->(w.alloc (.cells #[] 3)).cell? ((⟨bs,os,none⟩:Addr).add j)=some u):=aa (fun j u hu=>aB gE (CS.out j u hu));have he:∀w:World,(binOp .eql 22 (.slice (some ⟨bs,os,none⟩) s.length cs) (.slice none 0 0)).run Tryz.prog w= .ok (.bool false) w:=fun _=>rfl;clear Rw hs gE CS;go_enter Tryz.func120,Tryz.ntmps120;go_wp2_with (first
  |(at_builtin;refine sC _ rfl _ _ 22 rfl 3 i0 (.int .i64 0) 8 Tryz.underlying22 hi dt da cN ⟨w.heap.size,0,none⟩ ⟨bs,os,none⟩ s.length cs (an s) rfl rfl (by rw[dp]) CS1.out (by omega) (by omega) (by omega) (w.heap.size+1) (by simp) ?_;intro cap Z la
    have R2:=aa (yP (w.alloc (.cells #[] 3)).drew (an s) Z 3 (w.heap.size+1) (by simp[World.drew]));have G2:Hid (Gr w ((w.alloc (.cells #[] 3)).drew.alloc (.cells ((an s).toArray++Z) 3))):=aa (((gfl _).alloc _).drew.alloc _);obtain⟨N2,hN2⟩:∃N2:Nat,Hid (w.heap.size+1=N2):=⟨_,aa rfl⟩;rw[hN2.out] at R2 ⊢;obtain⟨W2,hW2⟩:∃W2:World,((w.alloc (.cells #[] 3)).drew.alloc (.cells ((an s).toArray++Z) 3))=W2:=⟨_,rfl⟩;rw[hW2] at R2 G2 ⊢;clear hW2)
  |fail)
 go_ret;exact⟨N2,cap,rfl,R2.out,by have:=hN2.out;omega,G2.out⟩
end Go.Proofs.YtlmhkjdkcoiioaaGreatDoor
