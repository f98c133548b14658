/- Lemmas and contracts for the proof of PointAlone (several texts in one, printed by wip/tools/pack.py): ZSupM QaA ZSupN ZSupO ZPrgA. -/
import Derived.Test.YtlmhkjdkcoiioaaGreatDoorAl8pk
import Derived.Test.YtlmhkjdkcoiioaaGreatDoorAl8pa
import Derived.Test.YtlmhkjdkcoiioaaGreatDoorAl8pb
import Derived.Deep.DeepCutAuto
import Derived.Test.YtlmhkjdkcoiioaaGreatDoorAl8pg
set_option maxRecDepth 100000
set_option maxHeartbeats 16000000
set_option linter.unusedVariables false
set_option linter.unusedSimpArgs false
namespace Go.Proofs.YtlmhkjdkcoiioaaGreatDoor
open Go.RowKit
open Classical
def vlt(l:List Sup)(r:Rls)(k:Nat):Int:=if h:k<l.length then l[k].levels.getD (r.level.getD k 0).toNat 0 else 0
def aQ(r:Rls)(k:Nat):Bool:=r.on.getD k false
def yc(l:List Sup)(d:List Drw)(r:Rls)(i:Nat):Prop:=
 (fF l d i->aQ r i=true)/\(aQ r i=true->∀h:i<l.length,ld l d i<=l[i].capacity/\(0<=l[i].parent->aQ r l[i].parent.toNat=true/\vlt l r i+l[i].dropout<=vlt l r l[i].parent.toNat))
def mA(l:List Sup)(r:Rls)(x:Drw):Prop:=x.low<=vlt l r x.supply.toNat/\vlt l r x.supply.toNat<=x.high
def my(l:List Sup)(r:Rls)(d:List Drw):Prop:=(∀i,i<l.length->yc l d r i)/\∀k (h:k<d.length),mA l r d[k]
def bi(l:List Sup)(r:Rls)(d:List Drw):Prop:=b7 l d/\bL l r/\my l r d
theorem bT{r:Rls}{k:Nat}(h:k<r.on.length):aQ r k=r.on[k]:=by simp[aQ,h]
theorem tJ{l:List Sup}{r:Rls}(h:bL l r)(k:Nat)(hk:k<l.length):∃h':k<r.level.length,∃n:Nat,r.level[k]=(n:Int)/\∃hn:n<l[k].levels.length,vlt l r k=l[k].levels[n]:=by
 have h1:k<r.level.length:=by have:=h.2.2.1;omega
 have h2:=h.2.2.2 k hk h1;obtain⟨n,hn⟩:=Int.eq_ofNat_of_zero_le h2.1;refine⟨h1,n,hn,by omega,?_⟩;simp only[vlt,hk,dif_pos,List.getD_eq_getElem?_getD,List.getElem?_eq_getElem h1,Option.getD_some,hn,Int.toNat_natCast];rw[List.getElem?_eq_getElem (by omega)];rfl
theorem qY{l:List Sup}{r:Rls}(h:bL l r)(k:Nat)(hk:k<l.length):1<=vlt l r k/\vlt l r k<=5000:=by obtain⟨_,n,_,hn,hv⟩:=tJ h k hk;obtain⟨_,q⟩:=(cW h.1).2 k hk;obtain⟨_,q1,q2,_⟩:=q.2 n hn;rw[hv];omega
theorem rP(l:List Sup)(r:Rls)(ao a1 a2:Option Addr)(cap c1 c2:Nat)(k:Nat)(w:World)(h:ag 5 bG w ao l)(hf:l.length<=16)(h2:ag 1 RI w a2 r.level)(hr:bL l r)(hk:k<l.length):
  Calls Tryz.prog 24 #[.slice ao l.length cap,.agg #[.slice a1 r.on.length c1,.slice a2 r.level.length c2],.int .i64 k] w (aN w (.int .i64 (vlt l r k))):=by
 obtain⟨k1,n,hn,gc,hv⟩:=tJ hr k hk;have HV:=aa hv;have Cu:=hr.2.2.1;obtain⟨b,o,rfl,⟨c0,_⟩,⟨al,cl,q1,q1l,q1f,cL⟩,_⟩:=h k hk;obtain⟨b2,o2,rfl,⟨e1,_⟩⟩:=h2.one k k1;obtain⟨b3,o3,rfl,⟨e2,_⟩⟩:=cL.one n gc;rw[hn] at e1;clear hv hn c0 hr;have g0:(0:Int)<=k:=by omega
 have g1:(k:Int)<l.length:=by omega
 have g2:(k:Int)<r.level.length:=by omega
 have g3:(0:Int)<=n:=by omega
 have g4:(n:Int)<l[k].levels.length:=by omega
 have i1:=ae q1;have i2:=ae e1;have i3:=ae e2;go_enter Tryz.func24,Tryz.ntmps24;go_wp2_with fail
 go_quiet (fail)
 go_wp2_with fail;go_ret;exact⟨bO HV.out.symm,grr⟩
theorem jX{l:List Sup}{r:Rls}{d:List Drw}{i:Nat}(hi:i<l.length)(h:¬yc l d r i):¬my l r d:=fun hm=>h (hm.1 i hi)
theorem Cr{l:List Sup}{r:Rls}{d:List Drw}{k:Nat}(hk:k<d.length)(h:¬mA l r d[k]):¬my l r d:=fun hm=>h (hm.2 k hk)
theorem zw(l:List Sup)(r:Rls)(d:List Drw)(ao a1 a2 a3:Option Addr)(cap c1 c2 c3:Nat)(w:World)(h:ag 5 bG w ao l)(h1:ag 1 RB w a1 r.on)(h2:ag 1 RI w a2 r.level)(h3:ag 4 cX w a3 d)(hr:bL l r)(hd:b7 l d):
  Calls Tryz.prog 77 #[.slice ao l.length cap,.agg #[.slice a1 r.on.length c1,.slice a2 r.level.length c2],.slice a3 d.length c3] w (aN w (.bool (decide (my l r d)))):=by
 have H:=aa h;have H1:=aa h1;have H2:=aa h2;have H3:=aa h3;have HR:=aa hr;have HD:=aa hd;have hz:=cW hd.1;have hf:l.length<=16:=by have:=hz.1;simp only[jI,not_or] at this;omega
 have OK:=aa hz.2;have f3:=hd.2.1;have nG:=aa hr.2.1;have ke:=aa hr.2.2.1;clear h h1 h2 h3 hr hd hz;go_enter Tryz.func77,Tryz.ntmps77;go_wp2_with fail;refine(xF l d ao a3 cap c3 _ (aX H.out ((gfl _).alloc _)) hf OK.out (bP H3.out ((gfl _).alloc _)) f3).mono ?_;rintro e w' ⟨au,cu,rfl,_,_,hu,O1,d1,rfl⟩;have HU:=aa hu;clear hu;rw[bN];go_wp2_with fail;refine(JE l d ao a3 cap c3 _ (aX H.out (((gfl _).alloc _).xt _ _)) hf OK.out (bP H3.out (((gfl _).alloc _).xt _ _)) f3 (fun k hk=>by have:=HD.out.2.2 k hk;unfold fq at this;omega)).mono ?_;rintro e w' ⟨al,cl,rfl,_,_,hl,O2,d2,rfl⟩;have HL:=aa hl;clear hl;rw[iK];go_wp2_with fail;obtain⟨w0,nw⟩:∃w0:World,Hid (w0=xt (w.alloc (.cells #[.slice a1 r.on.length c1,.slice a2 r.level.length c2] 29)) (O1++O2) d2):=⟨_,aa rfl⟩;have HU0:Hid (ag 1 RB w0 au (cH l d)):=aa (by rw[nw.out];have:=HU.out.giB (w':=xt (xt (w.alloc (.cells #[.slice a1 r.on.length c1,.slice a2 r.level.length c2] 29)) O1 d1) O2 d2) ((gfl _).xt _ _);rwa [xt_xt] at this);have HL0:Hid (ag 1 RI w0 al (pQ l d)):=aa (by rw[nw.out];have:=HL.out;rwa [xt_xt] at this);clear HU HL;go_loopw [21] (fun i wr=>∃k:Nat,k<=l.length/\i= .int .i64 k/\(∀j,j<k->yc l d r j)/\Gr w0 wr) (fun i _=>l.length-(intOf i).toNat);case atStart=>exact⟨0,Nat.zero_le _,rfl,fun j q=>absurd q (by omega),by rw[nw.out];exact gfl _⟩
 case round=>
  obtain⟨k,hk,rfl,aH,hg⟩:=hrel;have HA:=aa aH;have G0:=aa hg;have e0:wr.cell? ⟨w.heap.size,0,none⟩=some (.slice a1 r.on.length c1):=by rw[nw.out] at hg;exact aB hg (by simp[go_sem])
  have e1:wr.cell? ⟨w.heap.size,1,none⟩=some (.slice a2 r.level.length c2):=by rw[nw.out] at hg;exact aB hg (by simp[go_sem])
  have HG:Hid (Gr w wr):=aa ((((gfl w).alloc _).xt _ _).trans (nw.out▸hg));have eh:=ae e0;clear aH hg;by_cases aA:k<l.length
  ·have g0:(0:Int)<=k:=by omega
   have g1:(k:Int)<l.length:=by omega
   have g2:(k:Int)<r.on.length:=by have:=nG.out;omega
   have lW:k<r.on.length:=by omega
   obtain⟨b,o,rfl,⟨c0,c0w,zM⟩,⟨av,cv,q1,q1l,q1f,cV⟩,⟨c2,c2w,c2x⟩,⟨c3,_⟩,c4⟩:=aX H.out HG.out k aA;unfold RB at c4;obtain⟨bu,ou,rfl,u1⟩:=(HU0.out.giB G0.out).one k (by rw[bN];exact aA);rw[ri] at u1;unfold RB at u1;obtain⟨bl,ol,rfl,⟨v1,v1w,v1x⟩⟩:=(HL0.out.giI G0.out).one k (by rw[iK];exact aA);rw[wR] at v1 v1w v1x;obtain⟨bo,oo,rfl,r1⟩:=(H1.out.giB HG.out).one k lW;unfold RB at r1;have r1':r.on[k]=aQ r k:=(bT lW).symm;rw[r1'] at r1;clear r1';have x1:=ae c0;have x2:=ae u1;have x3:=ae v1;have x4:=ae r1;obtain⟨uu,ua⟩:∃uu:Bool,decide (fF l d k)=uu:=⟨_,rfl⟩;obtain⟨oo',hoo⟩:∃oo':Bool,aQ r k=oo':=⟨_,rfl⟩;rw[ua] at u1;rw[hoo] at r1;have UU:=aa ua;have OO:=aa hoo;clear ua hoo;have HH:nt l[k] k:=by obtain⟨_,q⟩:=OK.out k aA;exact q.1
   have p1:=HH.2.1;have dr0:=HH.2.2.2.1;have dr1:=HH.2.2.2.2.1;clear HH;cases oo' with
   |false=>
    cases uu with
    |true=>go_wp2_with fail;go_ret;exact⟨ai (cj (jX aA (fun hm=>by have:=hm.1 (by simpa using UU.out);rw[OO.out] at this;cases this))),gri HG.out⟩
    |false=>
     go_wp2_with fail;go_roundw;case rel=>
      refine⟨k+1,by omega,by go_num,fun j hj=>?_,gri G0.out⟩;by_cases e:j=k
      ·subst e;exact⟨fun hu=>absurd hu (by simpa using UU.out),fun ho=>by rw[OO.out] at ho;cases ho⟩
      exact HA.out j (by omega)
     case measure=>simp[intOf];omega
   |true=>
    have OA:=aa (OO.out);go_upto_region 5 with fail;go_cut [37] (fun dE wx=>dE= .bool false/\wx=wr.alloc (.cells #[.int .i64 l[k].parent,.slice av l[k].levels.length cv,.int .i64 l[k].dropout,.int .i64 l[k].capacity,.bool l[k].always] 81));case first=>
     cases uu with
     |true=>
      go_wp2_with fail
      go_meet
      exact⟨rfl,rfl⟩
     |false=>
      go_wp2_with fail
      go_meet
      exact⟨rfl,rfl⟩
    obtain⟨rfl,rfl⟩:=hcut;by_cases la:ld l d k<=l[k].capacity
    ·have HC:=aa la;have vz:decide (l[k].capacity<ld l d k)=false:=(by simp;exact la);clear la;by_cases hp:0<=l[k].parent
     ·obtain⟨p,iy⟩:=Int.eq_ofNat_of_zero_le hp;have PP:=aa iy;rw[iy] at c0 p1;rw[iy];clear iy hp c0w zM;have dw:p<l.length:=(by omega);have Ci:p<r.on.length:=(by omega);have g3:(p:Int)<r.on.length:=(by omega);obtain⟨bo2,oo2,e,r2⟩:=(H1.out.giB HG.out).one p Ci;cases e
      unfold RB at r2;have r2':r.on[p]=aQ r p:=(bT Ci).symm;rw[r2'] at r2;clear r2';have vk:=qY HR.out k aA;have vp:=qY HR.out p dw;obtain⟨op,yd⟩:∃op:Bool,aQ r p=op:=⟨_,rfl⟩;rw[yd] at r2;have OP:=aa yd;clear yd;cases op with
      |false=>
       go_wp2_with fail;refine ar (by kernel_rfl) (by kernel_rfl) ?_;repeat(go_big_quiet_step (fail))
       refine wpQuiet_nil ?_;rintro _ ⟨⟨O5,d5⟩,rfl⟩;go_wp2_with fail;go_ret;exact⟨ai (cj (jX aA (fun hm=>by have:=((hm.2 OA.out aA).2 (by rw[PP.out];omega)).1;rw[PP.out,Int.toNat_natCast,OP.out] at this;cases this))),gri HG.out⟩
      |true=>
       by_cases hv:vlt l r k+l[k].dropout<=vlt l r p
       ·have HV:=aa hv;have hvb:decide (vlt l r p<vlt l r k+l[k].dropout)=false:=(by simp;omega);clear hv;go_wp2_with fail;refine ar (by kernel_rfl) (by kernel_rfl) ?_;repeat(go_big_quiet_step ((go_at_call 24;exact bJ (rP l r _ _ _ _ _ _ _ _ (aX H.out (gri HG.out)) hf (H2.out.giI (gri HG.out)) HR.out (by omega)))))
        refine wpQuiet_nil ?_;rintro _ ⟨⟨O5,d5⟩,rfl⟩;go_wp2_with fail;go_roundw;case rel=>
         refine⟨k+1,by omega,by go_num,fun j hj=>?_,gri G0.out⟩;by_cases e:j=k
         ·subst e;exact⟨fun _=>OA.out,fun _ _=>⟨HC.out,fun _=>by rw[PP.out,Int.toNat_natCast];exact⟨OP.out,HV.out⟩⟩⟩
         exact HA.out j (by omega)
        case measure=>simp[intOf];omega
       have HV:=aa hv;have hvb:decide (vlt l r p<vlt l r k+l[k].dropout)=true:=(by simp;omega);clear hv;go_wp2_with fail;refine ar (by kernel_rfl) (by kernel_rfl) ?_;repeat(go_big_quiet_step ((go_at_call 24;exact bJ (rP l r _ _ _ _ _ _ _ _ (aX H.out (gri HG.out)) hf (H2.out.giI (gri HG.out)) HR.out (by omega)))))
       refine wpQuiet_nil ?_;rintro _ ⟨⟨O5,d5⟩,rfl⟩;go_wp2_with fail;go_ret;exact⟨ai (cj (jX aA (fun hm=>by have:=((hm.2 OA.out aA).2 (by rw[PP.out];omega)).2;rw[PP.out,Int.toNat_natCast] at this;have:=HV.out;omega))),gri HG.out⟩
     have HP:=aa hp;have Ez:decide (0<=l[k].parent)=false:=(by simp;omega);clear hp;go_wp2_with fail;refine ar (by kernel_rfl) (by kernel_rfl) ?_;repeat(go_big_quiet_step (fail))
     refine wpQuiet_nil ?_;rintro _ ⟨⟨O5,d5⟩,rfl⟩;go_wp2_with fail;go_roundw;case rel=>
      refine⟨k+1,by omega,by go_num,fun j hj=>?_,gri G0.out⟩;by_cases e:j=k
      ·subst e;exact⟨fun _=>OA.out,fun _ _=>⟨HC.out,fun q=>by have:=HP.out;omega⟩⟩
      exact HA.out j (by omega)
     case measure=>simp[intOf];omega
    have HC:=aa la;have vz:decide (l[k].capacity<ld l d k)=true:=(by simp;omega);clear la;go_wp2_with fail;refine ar (by kernel_rfl) (by kernel_rfl) ?_;repeat(go_big_quiet_step (fail))
    refine wpQuiet_nil ?_;rintro _ ⟨⟨O5,d5⟩,rfl⟩;go_wp2_with fail;go_ret;exact⟨ai (cj (jX aA (fun hm=>by have:=(hm.2 OA.out aA).1;have:=HC.out;omega))),gri HG.out⟩
  have hAll:∀j,j<l.length->yc l d r j:=fun j hj=>HA.out j (by omega);have HAll:=aa hAll;clear hAll HA e0 e1 eh HG;obtain⟨w1,rfl⟩:∃w1:World,w1=wr:=⟨_,rfl⟩;go_wp2_with fail;go_loopw [83] (fun i wr=>∃m:Nat,m<=d.length/\i= .int .i64 m/\(∀j (hj:j<d.length),j<m->mA l r d[j])/\Gr w0 wr) (fun i _=>d.length-(intOf i).toNat);case atStart=>exact⟨0,Nat.zero_le _,rfl,fun j _ q=>absurd q (by omega),G0.out⟩
  case round=>
   clear G0;obtain⟨m,hm,rfl,aH,hg⟩:=hrel;have HA:=aa aH;have G0:=aa hg;have e0:wr.cell? ⟨w.heap.size,0,none⟩=some (.slice a1 r.on.length c1):=by rw[nw.out] at hg;exact aB hg (by simp[go_sem])
   have e1:wr.cell? ⟨w.heap.size,1,none⟩=some (.slice a2 r.level.length c2):=by rw[nw.out] at hg;exact aB hg (by simp[go_sem])
   have HG:Hid (Gr w wr):=aa ((((gfl w).alloc _).xt _ _).trans (nw.out▸hg));have eh:=ae e0;clear aH hg;by_cases aA:m<d.length
   ·obtain⟨b,o,rfl,⟨t0,_⟩,⟨t1,_⟩,⟨t2,_⟩,⟨t3,_⟩⟩:=bP H3.out HG.out m aA;have og:=HD.out.2.2 m aA;unfold fq at og;obtain⟨sn,mQ⟩:=Int.eq_ofNat_of_zero_le og.1;have SN:=aa mQ;rw[mQ] at t0;have eX:sn<l.length:=(by omega);clear mQ og;have vw:=qY HR.out sn eX;go_wp2_with fail;refine ar (by kernel_rfl) (by kernel_rfl) ?_;repeat(go_big_quiet_step (first|(go_at_call 24;exact bJ (rP l r _ _ _ _ _ _ _ _ (aX H.out (gri HG.out)) hf (H2.out.giI (gri HG.out)) HR.out (by omega)))|(go_at_call 84;exact eA (sM _ _ _ _))))
    refine wpQuiet_nil ?_;rintro _ ⟨⟨O5,d5⟩,rfl⟩;go_wp2_with fail;all_goals (try simp only[Bool.not_eq_eq_eq_not,Bool.not_false,Bool.not_true,decide_eq_true_eq,decide_eq_false_iff_not,Bool.and_eq_true,Bool.and_eq_false_iff] at*)
    all_goals first
     |(go_ret;exact⟨ai (cj (Cr aA (fun hm=>by unfold mA at hm;rw[SN.out,Int.toNat_natCast] at hm;omega))),gri HG.out⟩)
     |(go_roundw;(case rel=>exact⟨m+1,by omega,by go_num,fun j q1 hj=>by(by_cases e:j=m);(·subst e;unfold mA;rw[SN.out,Int.toNat_natCast];omega);(·exact HA.out j q1 (by omega)),gri G0.out⟩);(case measure=>simp[intOf];omega))
   go_wp2_with fail;go_ret;exact⟨ai (mU ⟨HAll.out,fun j hj=>HA.out j hj (by omega)⟩),HG.out⟩
theorem uU(l:List Sup)(r:Rls)(d:List Drw)(ao a1 a2 a3:Option Addr)(cap c1 c2 c3:Nat)(w:World)(h:ag 5 bG w ao l)(hf:Fit l.length)(h1:ag 1 RB w a1 r.on)(h2:ag 1 RI w a2 r.level)(h3:ag 4 cX w a3 d)(f1:Fit r.on.length)(f2:Fit r.level.length)(f3:Fit d.length):
  Calls Tryz.prog 20 #[.slice ao l.length cap,.agg #[.slice a1 r.on.length c1,.slice a2 r.level.length c2],.slice a3 d.length c3] w (aN w (.bool (decide (bi l r d)))):=by
 have H:=aa h;have H1:=aa h1;have H2:=aa h2;have H3:=aa h3;clear h h1 h2 h3;by_cases hd:b7 l d
 ·by_cases hr:bL l r
  ·have wH:decide (b7 l d)=true:=by simp[hd]
   have rt:decide (bL l r)=true:=by simp[hr]
   have e:decide (bi l r d)=decide (my l r d):=by simp[bi,hd,hr]
   have HD:=aa hd;have HR:=aa hr;rw[e];clear hd hr e;go_enter Tryz.func20,Tryz.ntmps20;go_wp2_with fail;refine(mF l d ao a3 cap c3 _ (aX H.out ((gfl _).alloc _)) hf (bP H3.out ((gfl _).alloc _)) f3).mono ?_;rw[wH];rintro e w' ⟨rfl,O1,d1,rfl⟩;go_wp2_with fail;refine(mu l r ao a1 a2 cap c1 c2 _ (aX H.out (((gfl _).alloc _).xt _ _)) hf (H1.out.giB (((gfl _).alloc _).xt _ _)) (H2.out.giI (((gfl _).alloc _).xt _ _)) f1 f2).mono ?_;rw[rt];rintro e w' ⟨rfl,O2,d2,rfl⟩;go_wp2_with fail;refine(zw l r d ao a1 a2 a3 cap c1 c2 c3 _ (aX H.out (((gfl _).alloc _).xt _ _)) (H1.out.giB (((gfl _).alloc _).xt _ _)) (H2.out.giI (((gfl _).alloc _).xt _ _)) (bP H3.out (((gfl _).alloc _).xt _ _)) HR.out HD.out).mono ?_;rintro e w' ⟨rfl,O3,d3,rfl⟩;go_wp2_with fail;go_ret;exact⟨rfl,grr⟩
  have wH:decide (b7 l d)=true:=by simp[hd]
  have rt:decide (bL l r)=false:=by simp[hr]
  have e:decide (bi l r d)=false:=by simp[bi,hr]
  rw[e];clear hd hr e;go_enter Tryz.func20,Tryz.ntmps20;go_wp2_with fail;refine(mF l d ao a3 cap c3 _ (aX H.out ((gfl _).alloc _)) hf (bP H3.out ((gfl _).alloc _)) f3).mono ?_;rw[wH];rintro e w' ⟨rfl,O1,d1,rfl⟩;go_wp2_with fail;refine(mu l r ao a1 a2 cap c1 c2 _ (aX H.out (((gfl _).alloc _).xt _ _)) hf (H1.out.giB (((gfl _).alloc _).xt _ _)) (H2.out.giI (((gfl _).alloc _).xt _ _)) f1 f2).mono ?_;rw[rt];rintro e w' ⟨rfl,O2,d2,rfl⟩;go_wp2_with fail;go_ret;exact⟨rfl,grr⟩
 have wH:decide (b7 l d)=false:=by simp[hd]
 have e:decide (bi l r d)=false:=by simp[bi,hd]
 rw[e];clear hd e;go_enter Tryz.func20,Tryz.ntmps20;go_wp2_with fail;refine(mF l d ao a3 cap c3 _ (aX H.out ((gfl _).alloc _)) hf (bP H3.out ((gfl _).alloc _)) f3).mono ?_;rw[wH];rintro e w' ⟨rfl,O1,d1,rfl⟩;go_wp2_with fail;go_ret;exact⟨rfl,grr⟩
structure Pnt where
 rate:Int
 mv:Int
structure Scl where
 clock:Int
 supply:Int
 points:List Pnt
def qT(w:World)(b o:Nat)(p:Pnt):Prop:=RI w b o p.rate/\RI w b (o+1) p.mv
def lN(w:World)(b o:Nat)(x:Scl):Prop:=RI w b o x.clock/\RI w b (o+1) x.supply/\RSl 2 qT w b (o+2) x.points
theorem qT.mono:oA qT:=fun _ _ _ _ _ hg ⟨h0,h1⟩=>⟨RI.mono _ _ _ _ _ hg h0,RI.mono _ _ _ _ _ hg h1⟩
theorem lN.mono:oA lN:=fun _ _ _ _ _ hg ⟨h0,h1,h2⟩=>⟨RI.mono _ _ _ _ _ hg h0,RI.mono _ _ _ _ _ hg h1,RSl.mono qT.mono _ _ _ _ _ hg h2⟩
def AK(ps:List Pnt)(k:Nat):Prop:=∃h:k<ps.length,1<=ps[k].rate/\ps[k].rate<=4000000000/\1<=ps[k].mv/\ps[k].mv<=5000/\(0<k->(ps[k-1]'(by omega)).rate<ps[k].rate/\(ps[k-1]'(by omega)).mv<=ps[k].mv)
def fA(ps:List Pnt):Prop:=1<=ps.length/\ps.length<=8/\∀k,k<ps.length->AK ps k
def kU(nl np:Nat)(x:Scl):Prop:=0<=x.clock/\x.clock<nl/\0<=x.supply/\x.supply<np/\fA x.points
def fU(l:List Clk)(p:List Sup)(c:List Scl):Prop:=bA l=0/\chk p=0/\c.length<=32/\∀x∈c,kU l.length p.length x
def vAt(ps:List Pnt)(n d:Int):Option Int:=(ps.find? fun p=>fB n d 0 p.rate).map (·.mv)
def vOf:Option Int->Int×Bool
 |some v=>(v,true)
 |none=>(0,false)
noncomputable def gR(ps:List Pnt)(n d:Int):Int×Bool:=if fA ps/\bU n d=true then vOf (vAt ps n d) else(0,false)
noncomputable def jK(ps:List Pnt)(n d:Int):Int×Bool:=if n=0 then(0,true) else gR ps n d
noncomputable def cn(R:List Rt)(x:Scl):Int×Bool:=jK x.points (fW (cZ R x.clock.toNat)) (gC (cZ R x.clock.toNat))
theorem Lv{ps:List Pnt}{n d:Int}(h:∀j (hj:j<ps.length),fB n d 0 ps[j].rate=false):vAt ps n d=none:=by unfold vAt;rw[Option.map_eq_none_iff,List.find?_eq_none];intro x hx;obtain⟨j,hj,rfl⟩:=List.getElem_of_mem hx;rw[h j hj];decide
theorem KP{ps:List Pnt}{n d:Int}{k:Nat}(hk:k<ps.length)(h:∀j (hj:j<ps.length),j<k->fB n d 0 ps[j].rate=false)(h1:fB n d 0 ps[k].rate=true):vAt ps n d=some ps[k].mv:=by
 unfold vAt;have:ps.find? (fun p=>fB n d 0 p.rate)=some ps[k]:=by rw[List.find?_eq_some_iff_getElem];exact⟨h1,k,hk,rfl,fun j hj=>by rw[h j (by omega) hj];rfl⟩
 rw[this];rfl
theorem J8(ps:List Pnt)(n d:Int):0<=(gR ps n d).1/\(gR ps n d).1<=5000:=by
 unfold gR;split
 ·rename_i h;unfold vAt;cases e:ps.find? fun p=>fB n d 0 p.rate with
  |none=>simp[vOf]
  |some x=>obtain⟨k,hk,rfl⟩:=List.getElem_of_mem (List.mem_of_find?_eq_some e);obtain⟨_,_,_,q1,q2,_⟩:=h.1.2.2 k hk;simp only[Option.map_some,vOf];omega
 simp
theorem Lf(ps:List Pnt)(n d:Int):0<=(jK ps n d).1/\(jK ps n d).1<=5000:=by
 unfold jK;split
 ·simp
 exact J8 ps n d
theorem uO(R:List Rt)(x:Scl):0<=(cn R x).1/\(cn R x).1<=5000:=Lf _ _ _
noncomputable def fO(Rs:List (List Rt))(x:Scl):Int:=Rs.foldl (fun m R=>max m (cn R x).1) 0
theorem ES(Rs:List (List Rt))(R:List Rt)(x:Scl):fO (Rs++ [R]) x=max (fO Rs x) (cn R x).1:=by simp[fO]
theorem oJ(Rs:List (List Rt))(x:Scl):0<=fO Rs x/\fO Rs x<=5000:=by
 have:∀(L:List (List Rt)) (m:Int),0<=m/\m<=5000->0<=L.foldl (fun m R=>max m (cn R x).1) m/\L.foldl (fun m R=>max m (cn R x).1) m<=5000:=by
  intro L;induction L with
  |nil=>intro m h;exact h
  |cons R L ih=>intro m h;refine ih _ ?_;have:=uO R x;show 0<=max m (cn R x).1/\max m (cn R x).1<=5000;omega
 exact this Rs 0 (by omega)
noncomputable def jk(Rs:List (List Rt))(x:Scl):List Drw:=if 0<fO Rs x then [⟨x.supply,fO Rs x,5000,0⟩] else []
noncomputable def iG(Rs:List (List Rt))(d:List Drw)(c:List Scl):List Drw:=d++c.flatMap (jk Rs)
def IY(Rs:List (List Rt))(c:List Scl):Prop:=∃x∈c,∃R∈Rs,(cn R x).2=false
noncomputable def fz(l:List Clk)(ss:List (List Int)):List (List Rt):=ss.map (rts l)
noncomputable def rsE(l:List Clk)(p:List Sup)(ss:List (List Int))(d:List Drw)(c:List Scl):Int:=
 if fU l p c/\b7 p d/\∀s∈ss,aI l s then(if IY (fz l ss) c then 9 else if 32<(iG (fz l ss) d c).length then 3 else 0) else 1
noncomputable def rsL(l:List Clk)(p:List Sup)(ss:List (List Int))(d:List Drw)(c:List Scl):List Drw:=if rsE l p ss d c=0 then iG (fz l ss) d c else []
def mr(p:List Sup)(R:List Rt)(r:Rls)(x:Scl):Prop:=(cn R x).2=true/\(0<(cn R x).1->aQ r x.supply.toNat=true/\(cn R x).1<=vlt p r x.supply.toNat)
def j5(l:List Clk)(p:List Sup)(s:List Int)(r:Rls)(ms:List Lmt)(d:List Drw)(c:List Scl):Prop:=fU l p c/\aI l s/\bL p r/\fC l ms/\b7 p d
theorem kK{w w':World}{ao:Option Addr}{xs:List Pnt}(h:ag 2 qT w ao xs)(hg:Gr w w'):ag 2 qT w' ao xs:=h.gr qT.mono hg
theorem uB{w w':World}{ao:Option Addr}{xs:List Scl}(h:ag 3 lN w ao xs)(hg:Gr w w'):ag 3 lN w' ao xs:=h.gr lN.mono hg
theorem gJ{ps:List Pnt}{k:Nat}(hk:k<ps.length)(h:¬AK ps k):¬fA ps:=fun q=>h (q.2.2 k hk)
noncomputable def beg(l:List Sup)(d:List Drw):Int:=if chk l=0 then(if b7 l d then 0 else 1) else chk l
theorem qM(l:List Sup)(d:List Drw)(ao a1:Option Addr)(cap c1:Nat)(w:World)(h:ag 5 bG w ao l)(hf:Fit l.length)(h1:ag 4 cX w a1 d)(f1:Fit d.length):
  Calls Tryz.prog 85 #[.slice ao l.length cap,.slice a1 d.length c1] w (aN w (.int .i64 (beg l d))):=by
 have H:=aa h;have H1:=aa h1;have cw:=sX l;clear h h1;by_cases g1:chk l=0
 ·by_cases g2:b7 l d;all_goals
   have e:beg l d=(if b7 l d then 0 else 1):=by simp[beg,g1]
   rw[e];first|(have g2b:decide (b7 l d)=true:=by simp[g2])|(have g2b:decide (b7 l d)=false:=by simp[g2])
   first|rw[if_pos g2]|rw[if_neg g2]
   clear g2 e;go_enter Tryz.func85,Tryz.ntmps85;go_wp2_with fail;refine(fP l ao cap _ H.out hf).mono ?_;rw[g1];rintro e w' ⟨rfl,O1,d1,rfl⟩;go_wp2_with fail;refine(mF l d ao a1 cap c1 _ (aX H.out ((gfl _).xt _ _)) hf (bP H1.out ((gfl _).xt _ _)) f1).mono ?_;rw[g2b];rintro e w' ⟨rfl,O2,d2,rfl⟩;go_wp2_with fail;go_ret;exact⟨rfl,(gfl _).xt _ _⟩
 have e:beg l d=chk l:=by simp[beg,g1]
 rw[e];have g1b:(chk l !=0)=true:=by simp[g1]
 clear g1 e;go_enter Tryz.func85,Tryz.ntmps85;go_wp2_with fail;refine(fP l ao cap _ H.out hf).mono ?_;rintro e w' ⟨rfl,O1,d1,rfl⟩;go_wp2_with fail;go_ret;exact⟨rfl,(gfl _).xt _ _⟩
def lvF(xs:List Int)(v:Int):Nat->Nat->Int
 |_,0=> -1
 |n,k+1=>if v<=xs.getD n 0 then n else lvF xs v (n+1) k
def lvI(xs:List Int)(v:Int):Int:=lvF xs v 0 xs.length
theorem UZ(xs:List Int)(v:Int)(k:Nat):∀n, -1<=lvF xs v n k/\lvF xs v n k<=(n+k:Nat)-1:=by
 induction k with
 |zero=>intro n;simp only[lvF];omega
 |succ k ih=>intro n;simp only[lvF];split<;>(have:=ih (n+1);omega)
theorem za(xs:List Int)(v:Int): -1<=lvI xs v/\lvI xs v<=(xs.length:Int)-1:=by have:=UZ xs v xs.length 0;unfold lvI;omega
theorem Ar(s:Sup)(v:Int)(al:Option Addr)(cl:Nat)(w:World)(h:ag 1 RI w al s.levels)(hf:s.levels.length<=16):
  Calls Tryz.prog 87 #[.agg #[.int .i64 s.parent,.slice al s.levels.length cl,.int .i64 s.dropout,.int .i64 s.capacity,.bool s.always],.int .i64 v] w (aN w (.int .i64 (lvI s.levels v))):=by
 have H:=aa h;clear h;go_enter Tryz.func87,Tryz.ntmps87;go_wp2_with fail;go_loop [10] (fun i=>∃k:Nat,k<=s.levels.length/\i= .int .i64 k/\Hid (lvI s.levels v=lvF s.levels v k (s.levels.length-k))) (fun i=>s.levels.length-(intOf i).toNat);case atStart=>exact⟨0,Nat.zero_le _,rfl,aa rfl⟩
 case round=>
  obtain⟨k,hk,rfl,hl⟩:=hrel;by_cases aA:k<s.levels.length
  ·obtain⟨b,o,rfl,⟨c,_⟩⟩:=H.out.one k aA;have ch:=ae c;have hx:s.levels.getD k 0=s.levels[k]:=by simp[List.getD_eq_getElem?_getD,aA]
   have dU:lvF s.levels v k (s.levels.length-k)=if v<=s.levels[k] then(k:Int) else lvF s.levels v (k+1) (s.levels.length-(k+1)):=by rw[show s.levels.length-k=(s.levels.length-(k+1))+1 by omega];simp only[lvF,hx]
   have HST:=aa dU;clear hx dU;by_cases hv:v<=s.levels[k]
   ·have e:Hid (lvI s.levels v=k):=aa (by rw[hl.out,HST.out,if_pos hv]);go_wp2_with fail;go_ret;exact⟨bO e.out.symm,(gfl _).alloc _⟩
   have e:Hid (lvI s.levels v=lvF s.levels v (k+1) (s.levels.length-(k+1))):=aa (by rw[hl.out,HST.out,if_neg hv]);go_wp2_with fail;go_round;case rel=>exact⟨k+1,by omega,by go_num,e⟩
   case measure=>simp[intOf];omega
  go_wp2_with fail;go_ret;refine⟨bO ?_,(gfl _).alloc _⟩;rw[hl.out,show s.levels.length-k=0 by omega];rfl
def Ay(w:World)(v:Value)(r:Rls):Prop:=∃a1 a2 c1 c2,v= .agg #[.slice a1 r.on.length c1,.slice a2 r.level.length c2]/\ag 1 RB w a1 r.on/\ag 1 RI w a2 r.level/\r.on.length<=c1/\Fit r.on.length/\r.level.length<=c2/\Fit r.level.length
def Gd(w:World)(v:Value)(r:Rls):Prop:=r.level.length=0∨∃a1 n1 c1 B c2,v= .agg #[.slice a1 n1 c1,.slice (some ⟨B,0,none⟩) r.level.length c2]/\w.heap.size<=B
def Pa(l:List Sup)(d:List Drw)(w:World)(e:Ending)(w':World):Prop:=
 ∃r x v,e= .returned (.tuple #[v,.int .i64 x])/\Ay w' v r/\(x=0->bi l r d)/\aK x/\Gr w w'/\Gd w v r
def m7:Rls:=⟨[],[]⟩
theorem vN(w:World):Ay w (.agg #[.slice none 0 0,.slice none 0 0]) m7:=
 ⟨none,none,0,0,rfl,ag.nil _ _ _ _,ag.nil _ _ _ _,Nat.le_refl _,by simp[Fit,m7],Nat.le_refl _,by simp[Fit,m7]⟩
def mY(l:List Sup)(lv:List Int):Prop:=lv.length=l.length/\∀k (h:k<l.length) (h':k<lv.length),0<=lv[k]/\lv[k]<=(l[k].levels.length:Int)-1
def rZ(l:List Sup)(ls:List Int):Prop:=ls.length=l.length/\∀k (h:k<ls.length),0<=ls[k]/\ls[k]<=10000
theorem rZ.set{l:List Sup}{ls:List Int}(h:rZ l ls)(k:Nat)(x:Int)(h0:0<=x)(h1:x<=10000):rZ l (ls.set k x):=by
 refine⟨by simpa using h.1,fun j hj=>?_⟩;simp only[List.length_set] at hj;by_cases e:k=j
 ·subst e;rw[List.getElem_set_self];omega
 rw[List.getElem_set_ne e];exact h.2 j hj
theorem mY.set{l:List Sup}{lv:List Int}(h:mY l lv)(k:Nat)(hk:k<l.length)(x:Int)(h0:0<=x)(h1:x<=(l[k].levels.length:Int)-1):mY l (lv.set k x):=by
 refine⟨by simpa using h.1,fun j hj qH=>?_⟩;simp only[List.length_set] at qH;by_cases e:k=j
 ·subst e;rw[List.getElem_set_self];omega
 rw[List.getElem_set_ne e];exact h.2 j hj qH
theorem mY.rls{l:List Sup}{d:List Drw}{lv:List Int}(h:mY l lv)(hc:chk l=0):bL l ⟨cH l d,lv⟩:=⟨hc,bN l d,h.1,h.2⟩
theorem yK{l:List Sup}{d:List Drw}(h:beg l d=0):b7 l d:=by
 unfold beg at h;split at h
 ·split at h
  ·assumption
  omega
 omega
theorem Jh(l:List Sup)(d:List Drw):0<=beg l d/\beg l d<=3:=by have:=sX l;unfold beg;split<;>(try split)<;>omega
theorem Cw(l:List Sup)(r:Rls)(ao a1 a2:Option Addr)(cap c1 c2 n1 n2:Nat)(k:Nat)(w:World)(e1:n1=r.on.length)(e2:n2=r.level.length)(h:ag 5 bG w ao l)(hf:l.length<=16)(h2:ag 1 RI w a2 r.level)(hr:bL l r)(hk:k<l.length):
  Calls Tryz.prog 24 #[.slice ao l.length cap,.agg #[.slice a1 n1 c1,.slice a2 n2 c2],.int .i64 k] w (aN w (.int .i64 (vlt l r k))):=by
 subst e1 e2;exact rP l r ao a1 a2 cap c1 c2 k w h hf h2 hr hk
theorem AQ(l:List Sup)(r:Rls)(d:List Drw)(ao a1 a2 a3:Option Addr)(cap c1 c2 c3 n1 n2:Nat)(w:World)(e1:n1=r.on.length)(e2:n2=r.level.length)(h:ag 5 bG w ao l)(h1:ag 1 RB w a1 r.on)(h2:ag 1 RI w a2 r.level)(h3:ag 4 cX w a3 d)(hr:bL l r)(hd:b7 l d):
  Calls Tryz.prog 77 #[.slice ao l.length cap,.agg #[.slice a1 n1 c1,.slice a2 n2 c2],.slice a3 d.length c3] w (aN w (.bool (decide (my l r d)))):=by
 subst e1 e2;exact zw l r d ao a1 a2 a3 cap c1 c2 c3 w h h1 h2 h3 hr hd
theorem mY.wide{l:List Sup}{lv:List Int}(h:mY l lv)(tv:∀k (hk:k<l.length),l[k].levels.length<=16)(k:Nat)(hk:k<lv.length):aK lv[k]:=by have h1:=h.1;have:=h.2 k (by omega) hk;have:=tv k (by omega);unfold aK;omega
theorem Lh(l:List Sup)(d:List Drw)(ao a3:Option Addr)(cap c3:Nat)(w:World)(h:ag 5 bG w ao l)(hf:Fit l.length)(h3:ag 4 cX w a3 d)(f3:Fit d.length):
  Calls Tryz.prog 26 #[.slice ao l.length cap,.slice a3 d.length c3] w (Pa l d w):=by
 have H:=aa h;have H3:=aa h3;have bw:=Jh l d;clear h h3;by_cases g:beg l d=0
 ·have hd:=yK g;have hz:=cW hd.1;have Ii:l.length<=16:=by
   have:=hz.1;simp only[jI,not_or] at this;omega
  have Fj:∀k (hk:k<l.length),l[k].levels.length<=16:=fun k hk=>by
   have:=hz.1;simp only[jI,not_or] at this;rcases Nat.lt_or_ge 16 l[k].levels.length with q|q
   ·exact absurd ⟨k,hk,q⟩ this.2
   exact q
  have lH:=aa Fj;have OK:=aa hz.2;have HD:=aa hd;have Vc:=hd.2.1;have HF:=aa hf;clear hd hz Fj hf;have jV:=run_make_row' (P:=Tryz.prog) 22 3 (.int .i64 0) 8 Tryz.underlying22 eS rfl .i64 .i64 l.length (by omega) (by omega);go_enter Tryz.func26,Tryz.ntmps26;go_wp2_with fail;refine(qM l d ao a3 cap c3 _ (aX H.out ((gfl _).alloc _)) HF.out (bP H3.out ((gfl _).alloc _)) f3).mono ?_;rw[g];rintro e w' ⟨rfl,O1,d1,rfl⟩;go_wp2_with fail;refine(xF l d ao a3 cap c3 _ (aX H.out (((gfl _).alloc _).xt _ _)) Ii OK.out (bP H3.out (((gfl _).alloc _).xt _ _)) Vc).mono ?_;rintro e w' ⟨au,cu,rfl,cu1,cu2,hu,O2,d2,rfl⟩;have HU:=aa hu;have CU:=aa cu2;rw[bN] at cu1;clear hu cu2;rw[bN];go_wp2_with fail;obtain⟨W0,hW0⟩:∃W0:World,xt (w.alloc (.cells #[.slice none 0 0,.slice none 0 0] 29)) (O1++O2) d2=W0:=⟨_,rfl⟩;have hBL:w.heap.size+1+(O1.size+O2.size)=W0.heap.size:=by rw[<-hW0];simp
  have hU0:ag 1 RB W0 au (cH l d):=by rw[<-hW0];have:=HU.out;rwa [xt_xt] at this
  have hG0:Gr w W0:=by rw[<-hW0];exact((gfl _).alloc _).xt _ _
  have hR4:Row W0 w.heap.size 29 [.slice none 0 0,.slice none 0 0]:=by rw[<-hW0];exact(Row.new w #[.slice none 0 0,.slice none 0 0] 29).xt _ _
  rw[hW0,hBL];have HU0:=aa hU0;have HG0:=aa hG0;have R4:=aa hR4;have n4:w.heap.size<W0.heap.size:=hR4.has;clear hW0 hBL hU0 hG0 hR4 HU jV;obtain⟨W1,hW1⟩:∃W1:World,((W0.alloc (.cells (madeCells #[.int .i64 0] l.length) 3)).alloc (.cells #[.slice au l.length cu,.slice (some ⟨W0.heap.size,0,none⟩) l.length l.length] 29)).alloc (.cells (madeCells #[.int .i64 0] l.length) 3)=W1:=⟨_,rfl⟩;have g1:Gr W0 W1:=by rw[<-hW1];exact(((gfl _).alloc _).alloc _).alloc _
  have rL:Row W1 W0.heap.size 3 (an (List.replicate l.length 0)):=by rw[<-hW1];exact(tK W0 l.length).gr (((gfl _).alloc _).alloc _)
  have rR:Row W1 (W0.heap.size+1) 29 [.slice au l.length cu,.slice (some ⟨W0.heap.size,0,none⟩) l.length l.length]:=by rw[<-hW1];have:=Row.new (W0.alloc (.cells (madeCells #[.int .i64 0] l.length) 3)) #[.slice au l.length cu,.slice (some ⟨W0.heap.size,0,none⟩) l.length l.length] 29;simp only[World.size_alloc] at this;exact this.gr ((gfl _).alloc _)
  have rS:Row W1 (W0.heap.size+1+1) 3 (an (List.replicate l.length 0)):=by rw[<-hW1];have:=tK ((W0.alloc (.cells (madeCells #[.int .i64 0] l.length) 3)).alloc (.cells #[.slice au l.length cu,.slice (some ⟨W0.heap.size,0,none⟩) l.length l.length] 29)) l.length;simp only[World.size_alloc] at this;exact this
  have lv0:mY l (List.replicate l.length 0):=⟨by simp,fun k hk _=>by obtain⟨_,q⟩:=OK.out k hk;have:=q.1.2.2.1;simp;omega⟩
  have ls0:rZ l (List.replicate l.length 0):=⟨by simp,fun k _=>by simp⟩;rw[hW1];clear hW1;go_loopw [34] (fun i wr=>∃m:Nat,m<=d.length/\i= .int .i64 m/\Gr W0 wr/\Row wr W0.heap.size 3 (an (List.replicate l.length 0))/\Row wr (W0.heap.size+1) 29 [.slice au l.length cu,.slice (some ⟨W0.heap.size,0,none⟩) l.length l.length]/\∃ls,Row wr (W0.heap.size+1+1) 3 (an ls)/\rZ l ls) (fun i _=>d.length-(intOf i).toNat);case atStart=>exact⟨0,Nat.zero_le _,rfl,g1,rL,rR,_,rS,ls0⟩
  case round=>
   clear g1 rL rR rS ls0;obtain⟨m,hm,rfl,hg,rL,rR,ls,rS,kJ⟩:=hrel;have G0:=aa hg;have RL:=aa rL;have RR:=aa rR;have RS:=aa rS;have LS:=aa kJ;have GG:Hid (Gr w wr):=aa (HG0.out.trans hg);have LV0:=aa lv0;clear hg rL rR rS kJ lv0;by_cases aA:m<d.length
   ·obtain⟨b,o,rfl,⟨t0,_⟩,⟨t1,t1w,t1x⟩,⟨t2,_⟩,⟨t3,_⟩⟩:=bP H3.out GG.out m aA;have og:=HD.out.2.2 m aA;unfold fq at og;obtain⟨sn,mQ⟩:=Int.eq_ofNat_of_zero_le og.1;rw[mQ] at t0;have eX:sn<l.length:=(by omega);have lo0:0<=d[m].low:=(by omega);have lo1:d[m].low<=5000:=(by omega);clear mQ og;have zH:sn<ls.length:=(by have:=LS.out.1;omega);have lsb:=LS.out.2 sn zH;have s0:=RS.out.iat sn zH;have s1:=RS.out.free sn;have s2:=RS.out.has;have gl:(sn:Int)<l.length:=(by omega);have ls1:=lsb.1;have ls2:=lsb.2;clear lsb;go_wp2_with fail;go_region;all_goals go_wp2_with fail
    all_goals go_roundw
    case rel=>
     refine⟨m+1,by omega,by go_num,?_,?_,?_,ls.set sn (if ls[sn]<d[m].low then d[m].low else ls[sn]),?_,?_⟩
     ·repeat(first|with_reducible exact G0.out|with_reducible refine Gr.setc (by omega) ?_|with_reducible refine Gr.alloc _ ?_|with_reducible refine Gr.xt _ _ ?_|with_reducible refine Gr.drew ?_)
     ·repeat(first|with_reducible exact RL.out|with_reducible refine Row.alloc _ ?_|with_reducible refine Row.drew ?_|with_reducible refine Row.xt _ _ ?_|with_reducible refine Row.oth ?_ (by omega))
     ·repeat(first|with_reducible exact RR.out|with_reducible refine Row.alloc _ ?_|with_reducible refine Row.drew ?_|with_reducible refine Row.xt _ _ ?_|with_reducible refine Row.oth ?_ (by omega))
     ·repeat(first|with_reducible exact RS.out.iset sn _|with_reducible refine Row.alloc _ ?_|with_reducible refine Row.drew ?_|with_reducible refine Row.xt _ _ ?_|with_reducible refine Row.oth ?_ (by omega))
     exact LS.out.set sn _ (by split<;>omega) (by split<;>omega)
    case measure=>simp[intOf];omega
   obtain⟨w1,rfl⟩:∃w1:World,w1=wr:=⟨_,rfl⟩;go_wp2_with fail;go_loopw [12] (fun i wr=>∃n:Nat,n<=l.length/\i= .int .i64 ((n:Int)-1)/\Gr W0 wr/\Row wr (W0.heap.size+1) 29 [.slice au l.length cu,.slice (some ⟨W0.heap.size,0,none⟩) l.length l.length]/\∃lv ls,Row wr W0.heap.size 3 (an lv)/\Row wr (W0.heap.size+1+1) 3 (an ls)/\mY l lv/\rZ l ls) (fun i _=>(intOf i+1).toNat);case atStart=>exact⟨l.length,Nat.le_refl _,rfl,G0.out,RR.out,_,ls,RL.out,RS.out,LV0.out,LS.out⟩
   case round=>
    clear G0 RL RR RS LS GG LV0;obtain⟨n,hn,rfl,hg,rR,lv,ls,rL,rS,ke,kJ⟩:=hrel;have G0:=aa hg;have RL:=aa rL;have RR:=aa rR;have RS:=aa rS;have LS:=aa kJ;have LV:=aa ke;have GG:Hid (Gr w wr):=aa (HG0.out.trans hg);have x1:=rR.cell 1 (by simp);have x0:=rR.cell 0 (by simp);simp only[List.getElem_cons_succ,List.getElem_cons_zero] at x0 x1;have hhR:=rR.has;have hhL:=rL.has;have hhS:=rS.has;clear hg rL rR rS kJ ke;cases n with
    |zero=>
     have e0:=(R4.out.gr G0.out).cell 0 (by simp);have e1:=(R4.out.gr G0.out).cell 1 (by simp);have e2:=(R4.out.gr G0.out).free 0;have e3:=(R4.out.gr G0.out).free 1;have e4:=(R4.out.gr G0.out).has;simp only[List.getElem_cons_succ,List.getElem_cons_zero] at e0 e1;have RK:=aa (LV.out.rls (d:=d) HD.out.1);have Cu:=LV.out.1;go_wp2_with fail;refine(AQ l ⟨cH l d,lv⟩ d _ _ _ _ _ _ _ _ _ _ _ (bN l d).symm Cu.symm (aX H.out GG.out) (HU0.out.giB G0.out) (RL.out.slI (LV.out.wide lH.out)) (bP H3.out GG.out) RK.out HD.out).mono ?_;rintro e w' ⟨rfl,O7,d7,rfl⟩;by_cases hm:my l ⟨cH l d,lv⟩ d
     ·have HM:=aa hm;rw[dtx hm];clear hm;go_wp2_with fail;refine bodyPost_ret (v:= .tuple #[.agg #[.slice au l.length cu,.slice (some ⟨W0.heap.size,0,none⟩) l.length l.length],.int .i64 0]) ?_ rfl ?_
      ·simp[results,Tryz.results26,go_sem,e0,e1,e4]
      have q1:=((HU0.out.giB G0.out).keepB (v':= .slice au l.length cu) e0 (by intro x h;cases h)).keepB (v':= .slice (some ⟨W0.heap.size,0,none⟩) l.length l.length) (a:=⟨w.heap.size,1,none⟩) (v:= .slice none 0 0) (by rw[World.cell?_setCell_other];exact e1;simp) (by intro x h;cases h);have q2:=((RL.out.slI (LV.out.wide lH.out)).keepI (v':= .slice au l.length cu) e0 (by intro k x h;cases h)).keepI (v':= .slice (some ⟨W0.heap.size,0,none⟩) l.length l.length) (a:=⟨w.heap.size,1,none⟩) (v:= .slice none 0 0) (by rw[World.cell?_setCell_other];exact e1;simp) (by intro k x h;cases h);exact⟨⟨cH l d,lv⟩,_,_,rfl,⟨au,some ⟨W0.heap.size,0,none⟩,cu,l.length,by simp only[bN,Cu],q1.giB ((gfl _).xt _ _),q2.giI ((gfl _).xt _ _),by rw[bN];exact cu1,CU.out,by show lv.length<=l.length;omega,(by have:=HF.out;unfold Fit at*;show lv.length<=_;omega)⟩,fun _=>⟨HD.out,RK.out,HM.out⟩,by unfold aK;omega,(by repeat(first|with_reducible exact GG.out|with_reducible refine Gr.setc (by omega) ?_|with_reducible refine Gr.alloc _ ?_|with_reducible refine Gr.xt _ _ ?_)),.inr ⟨au,l.length,cu,W0.heap.size,l.length,by show _=Value.agg #[_,.slice _ lv.length _];rw[Cu],by omega⟩⟩
     rw[dfx hm];clear hm;go_wp2_with fail;refine bodyPost_ret (v:= .tuple #[.agg #[.slice none 0 0,.slice none 0 0],.int .i64 9]) ?_ rfl ?_
     ·simp[results,Tryz.results26,go_sem,e0,e1,e4]
     exact⟨m7,_,_,rfl,vN _,fun q=>by omega,by unfold aK;omega,(by repeat(first|with_reducible exact GG.out|with_reducible refine Gr.setc (by omega) ?_|with_reducible refine Gr.alloc _ ?_|with_reducible refine Gr.xt _ _ ?_)),.inl rfl⟩
    |succ i=>
     rw[show((i+1:Nat):Int)-1=(i:Int) by omega];have AN:(0:Int)<=i:=(by omega);have hib:(i:Int)<l.length:=(by omega);obtain⟨bu,ou,rfl,u1⟩:=(HU0.out.giB G0.out).one i (by rw[bN];exact hn);rw[ri] at u1;unfold RB at u1;obtain⟨b,o,rfl,sB⟩:=H.out.all (by omega);have HS:=aa (sB i hn);clear sB;obtain⟨⟨c0,c0w,zM⟩,⟨al,cl,q1,q1l,q1f,cL⟩,⟨c2,_⟩,⟨c3,_⟩,c4⟩:=bG.mono _ _ _ _ _ GG.out HS.out;unfold RB at c4;have CL:=aa cL;have mH:i<lv.length:=(by have:=LV.out.1;omega);have eX:i<ls.length:=(by have:=LS.out.1;omega);have s0:=RS.out.iat i eX;have l0:=RL.out.iat i mH;have l1:=RL.out.free i;have tv:=lH.out i hn;have Cy:=ae c0;have hh2:=ae u1;clear cL;obtain⟨uu,ua⟩:∃uu:Bool,decide (fF l d i)=uu:=⟨_,rfl⟩;rw[ua] at u1;clear ua;cases uu with
     |false=>
      go_wp2_with fail;go_roundw;case rel=>exact⟨i,by omega,by go_num,G0.out,RR.out,lv,ls,RL.out,RS.out,LV.out,LS.out⟩
      case measure=>simp[intOf]
     |true=>
      go_wp2_with fail;refine bZ 13 (by kernel_rfl) (by kernel_rfl) ?_;simp only[List.take_succ_cons,List.take_zero,List.drop_succ_cons,List.drop_zero];repeat(go_big_quiet_step ((go_at_call 87;exact bJ (Ar l[i] _ _ _ _ (CL.out.giI ((gfl _).xt _ _)) tv))))
      refine wpQuiet_nil ?_;rintro _ ⟨⟨O5,d5⟩,rfl⟩;have lw:=za l[i].levels ls[i];obtain⟨kk,t9⟩:∃kk,lvI l[i].levels ls[i]=kk:=⟨_,rfl⟩;rw[t9] at lw ⊢;have lw0:=lw.1;have lw1:=lw.2;clear t9 lw;have nb:b≠W0.heap.size:=(by have:b<w.heap.size:=ae HS.out.1.1;omega);have nb':b≠W0.heap.size+1+1:=(by have:b<w.heap.size:=ae HS.out.1.1;omega);by_cases kn:kk<0
      ·have e0:=(R4.out.gr G0.out).cell 0 (by simp);have e1:=(R4.out.gr G0.out).cell 1 (by simp);have e2:=(R4.out.gr G0.out).free 0;have e3:=(R4.out.gr G0.out).free 1;have e4:=(R4.out.gr G0.out).has;simp only[List.getElem_cons_succ,List.getElem_cons_zero] at e0 e1;have n4':w.heap.size≠W0.heap.size:=(by omega);go_wp2_with fail;refine bodyPost_ret (v:= .tuple #[.agg #[.slice none 0 0,.slice none 0 0],.int .i64 9]) ?_ rfl ?_
       ·simp[results,Tryz.results26,go_sem,e0,e1,e4]
       exact⟨m7,_,_,rfl,vN _,fun q=>by omega,by unfold aK;omega,(by repeat(first|with_reducible exact GG.out|with_reducible refine Gr.setc (by omega) ?_|with_reducible refine Gr.alloc _ ?_|with_reducible refine Gr.xt _ _ ?_)),.inl rfl⟩
      have kn':0<=kk:=(by omega);have LV2:=aa (LV.out.set i hn kk kn' lw1);have pr:=OK.out i hn;obtain⟨_,⟨pr1,pr2,_,pr4,pr5,_,_,_⟩,_⟩:=pr;clear kn;by_cases hp:0<=l[i].parent
      ·obtain⟨p,iy⟩:=Int.eq_ofNat_of_zero_le hp;rw[iy] at c0 pr2;clear iy hp c0w zM pr1;have dw:p<ls.length:=(by omega);have hpi:p≠i:=(by omega);have p0:=RS.out.iat p dw;have p1:=RS.out.free p;have lp:=LS.out.2 p dw;have gp:(p:Int)<l.length:=(by omega);have vw:=qY (LV2.out.rls (d:=d) HD.out.1) i hn;have SL2:=aa ((RL.out.iset i kk).slI (LV2.out.wide lH.out));go_wp2_with fail;refine mw 18 (by kernel_rfl) (by kernel_rfl) ?_;simp only[List.take_succ_cons,List.take_zero,List.drop_succ_cons,List.drop_zero];repeat(go_big_quiet_step ((go_at_call 24;exact bJ (Cw l ⟨cH l d,lv.set i kk⟩ _ _ _ _ _ _ _ _ _ _ (bN l d).symm LV2.out.1.symm (aX H.out (by repeat(first|with_reducible exact GG.out|with_reducible refine Gr.setc (by omega) ?_|with_reducible refine Gr.alloc _ ?_|with_reducible refine Gr.xt _ _ ?_))) Ii (SL2.out.giI ((gfl _).xt _ _)) (LV2.out.rls HD.out.1) (by omega)))))
       refine wpQuiet_nil ?_;rintro _ ⟨⟨O6,d6⟩,rfl⟩;go_wp2_with fail;go_roundw;case rel=>exact⟨i,by omega,by go_num,(by repeat(first|with_reducible exact G0.out|with_reducible refine Gr.setc (by omega) ?_|with_reducible refine Gr.alloc _ ?_|with_reducible refine Gr.xt _ _ ?_)),(by repeat(first|with_reducible exact RR.out|with_reducible refine Row.alloc _ ?_|with_reducible refine Row.drew ?_|with_reducible refine Row.xt _ _ ?_|with_reducible refine Row.oth ?_ (by omega))),lv.set i kk,ls.set p (if ls[p]<vlt l ⟨cH l d,lv.set i kk⟩ i+l[i].dropout then vlt l ⟨cH l d,lv.set i kk⟩ i+l[i].dropout else ls[p]),(by repeat(first|with_reducible exact RL.out.iset i kk|with_reducible refine Row.alloc _ ?_|with_reducible refine Row.drew ?_|with_reducible refine Row.xt _ _ ?_|with_reducible refine Row.oth ?_ (by omega))),(by repeat(first|with_reducible exact RS.out|with_reducible refine Row.iset ?_ _ _|with_reducible refine Row.alloc _ ?_|with_reducible refine Row.drew ?_|with_reducible refine Row.xt _ _ ?_|with_reducible refine Row.oth ?_ (by omega))),LV2.out,LS.out.set p _ (by split<;>omega) (by split<;>omega)⟩
       case measure=>simp[intOf]
      have zD:l[i].parent<0:=(by omega);clear hp;go_wp2_with fail;go_roundw;case rel=>exact⟨i,by omega,by go_num,(by repeat(first|with_reducible exact G0.out|with_reducible refine Gr.setc (by omega) ?_|with_reducible refine Gr.alloc _ ?_|with_reducible refine Gr.xt _ _ ?_)),(by repeat(first|with_reducible exact RR.out|with_reducible refine Row.alloc _ ?_|with_reducible refine Row.drew ?_|with_reducible refine Row.xt _ _ ?_|with_reducible refine Row.oth ?_ (by omega))),lv.set i kk,ls,(by repeat(first|with_reducible exact RL.out.iset i kk|with_reducible refine Row.alloc _ ?_|with_reducible refine Row.drew ?_|with_reducible refine Row.xt _ _ ?_|with_reducible refine Row.oth ?_ (by omega))),(by repeat(first|with_reducible exact RS.out|with_reducible refine Row.alloc _ ?_|with_reducible refine Row.drew ?_|with_reducible refine Row.xt _ _ ?_|with_reducible refine Row.oth ?_ (by omega))),LV2.out,LS.out⟩
      case measure=>simp[intOf]
 have gb:(beg l d !=0)=true:=by simp[g]
 have G:=aa g;clear g;go_enter Tryz.func26,Tryz.ntmps26;go_wp2_with fail;refine(qM l d ao a3 cap c3 _ (aX H.out ((gfl _).alloc _)) hf (bP H3.out ((gfl _).alloc _)) f3).mono ?_;rintro e w' ⟨rfl,O1,d1,rfl⟩;go_wp2_with fail;refine bodyPost_ret (v:= .tuple #[.agg #[.slice none 0 0,.slice none 0 0],.int .i64 (beg l d)]) ?_ rfl ?_
 ·simp[results,Tryz.results26,go_sem]
 exact⟨m7,_,_,rfl,vN _,fun q=>absurd q G.out,by unfold aK;omega,grr,.inl rfl⟩
theorem jY(x lo hi:Int)(w:World):
  Calls Tryz.prog 135 #[.int .i64 x,.int .i64 lo,.int .i64 hi] w fun e w'=>e= .returned (.bool (decide (lo<=x)&&decide (x<=hi)))/\w=w':=by
 go_enter Tryz.func135,Tryz.ntmps135;go_wp2;all_goals go_ret
 all_goals exact⟨ai (by rw[Bool.eq_iff_iff];simp;try omega),rfl⟩
theorem Ei{s:Sup}{k m:Nat}(hm:m<s.levels.length)(h:¬Gn s.levels m):¬te s k:=fun hs=>h (hs.2 m hm)
theorem PI(s:Sup)(al:Option Addr)(cl k:Nat)(w:World)(hk:k<=16)(hf:Fit s.levels.length)(h:ag 1 RI w al s.levels):
  Calls Tryz.prog 152 #[.agg #[.int .i64 s.parent,.slice al s.levels.length cl,.int .i64 s.dropout,.int .i64 s.capacity,.bool s.always],.int .i64 k] w (aN w (.bool (decide (te s k)))):=by
 unfold Fit at hf;have CL:=aa h;clear h;by_cases hH:nt s k
 ·have HH:=aa hH;obtain⟨h1,h2,h3,h4,h5,h6,h7,h8⟩:=hH;have h6':s.parent<0->(s.dropout !=0)=false:=fun h=>by simp[h6 h]
  clear h6;have h3':(((s.levels.length:Nat):Int)==0)=false:=by simp;intro e;rw[e] at h3;simp at h3
  by_cases hp:s.parent<0;all_goals
   first|(have h6:=h6' hp)|skip
   clear h6';go_enter Tryz.func152,Tryz.ntmps152;go_wp2_with (go_at_call 135;refine(jY _ _ _ _).mono ?_;rintro e w' ⟨rfl,rfl⟩);obtain⟨w2,nA⟩:∃w2:World,Hid (w2=w.alloc (.cells #[.int .i64 s.parent,.slice al s.levels.length cl,.int .i64 s.dropout,.int .i64 s.capacity,.bool s.always] 81)):=⟨_,aa rfl⟩;go_loopw [44] (fun i wr=>∃m:Nat,m<=s.levels.length/\i= .int .i64 m/\(∀j,j<m->Gn s.levels j)/\Gr w2 wr) (fun i _=>s.levels.length-(intOf i).toNat);case atStart=>exact⟨0,Nat.zero_le _,rfl,fun j h=>absurd h (by omega),by rw[nA.out];exact gfl _⟩
   case round=>
    obtain⟨m,hm,rfl,ke,bY⟩:=hrel;have HLV:=aa ke;have G2:=aa bY;have G1:Hid (Gr w wr):=aa (((gfl w).alloc _).trans (nA.out▸bY));have e1:wr.cell? ⟨w.heap.size,1,none⟩=some (.slice al s.levels.length cl):=by have:=bY;rw[nA.out] at this;exact aB this (by simp[go_sem])
    clear ke bY;by_cases kL:m<s.levels.length
    ·obtain⟨bl,ol,rfl,lV⟩:=(CL.out.giI G1.out).all1 (by omega);obtain⟨d1,d1w,d1x⟩:=lV m kL;by_cases jx:0<m
     ·obtain⟨d2,_⟩:=lV (m-1) (by omega);clear lV;go_wp2_with (go_at_call 135;refine(jY _ _ _ _).mono ?_;rintro e w' ⟨rfl,rfl⟩);all_goals first
       |(go_ret;exact⟨ai (cj (Ei kL (by rintro⟨_,q1,q2,q3⟩;have q4:=q3 jx;omega))),G1.out⟩)
       |(go_roundw;(case rel=>exact⟨m+1,by omega,by go_num,fun j hj=>by(by_cases e:j=m);(·subst e;exact⟨kL,by omega,by omega,fun _=>by omega⟩);(·exact HLV.out j (by omega)),G2.out⟩);(case measure=>simp[intOf];omega))
     clear lV;go_wp2_with (go_at_call 135;refine(jY _ _ _ _).mono ?_;rintro e w' ⟨rfl,rfl⟩);all_goals first
      |(go_ret;exact⟨ai (cj (Ei kL (by rintro⟨_,q1,q2,q3⟩;omega))),G1.out⟩)
      |(go_roundw;(case rel=>exact⟨m+1,by omega,by go_num,fun j hj=>by(by_cases e:j=m);(·subst e;exact⟨kL,by omega,by omega,fun _=>by omega⟩);(·exact HLV.out j (by omega)),G2.out⟩);(case measure=>simp[intOf];omega))
    go_wp2;go_ret;exact⟨ai (mU ⟨HH.out,fun i hi=>HLV.out i (by omega)⟩),G1.out⟩
 have hB:=aa (show¬te s k from fun q=>hH q.1);unfold nt at hH;have h3':(((s.levels.length:Nat):Int)==0)=decide (s.levels.length<1):=by rw[Bool.eq_iff_iff];simp
 go_enter Tryz.func152,Tryz.ntmps152;go_wp2_with (go_at_call 135;refine(jY _ _ _ _).mono ?_;rintro e w' ⟨rfl,rfl⟩);all_goals first
  |(go_ret;exact⟨ai (cj hB.out),grr⟩)
  |(exfalso;(try simp only[Bool.not_eq_eq_eq_not,Bool.not_false,Bool.not_true,decide_eq_true_eq,decide_eq_false_iff_not,bne_eq_false_iff_eq,bne_iff_ne,ne_eq,<-List.length_eq_zero_iff] at*);omega)
end Go.Proofs.YtlmhkjdkcoiioaaGreatDoor
