/- Lemmas and contracts for the proof of PointAlone (several texts in one, printed by wip/tools/pack.py): QaH ZNr ZMkD ZRpA QbB. -/
import Derived.Test.YtlmhkjdkcoiioaaGreatDoorAl8pB
import Derived.Test.YtlmhkjdkcoiioaaGreatDoorAl8pD
import Derived.Test.YtlmhkjdkcoiioaaGreatDoorAl8pr
import Derived.Test.YtlmhkjdkcoiioaaGreatDoorAl8ps
import Derived.Test.YtlmhkjdkcoiioaaGreatDoorAl8pw
import Derived.Test.YtlmhkjdkcoiioaaGreatDoorAl8pp
import Derived.Test.YtlmhkjdkcoiioaaGreatDoorAl8pa
import Derived.Test.YtlmhkjdkcoiioaaGreatDoorAl8pb
import Derived.Test.YtlmhkjdkcoiioaaGreatDoorAl8pA
import Derived.Deep.DeepCutAuto
import Derived.Test.YtlmhkjdkcoiioaaGreatDoorAl8px
set_option maxRecDepth 100000
set_option maxHeartbeats 16000000
set_option linter.unusedVariables false
set_option linter.unusedSimpArgs false
namespace Go.Proofs.YtlmhkjdkcoiioaaGreatDoor
open Go.RowKit
open Classical
def wcl(x:Int×Int):Wri:=⟨1,x.1,x.2⟩
theorem Rc{w:World}{ao:Option Addr}{ps:List (Int×Int)}(h:ag 3 RWc w ao ps):ag 3 dY w ao (ps.map wcl):=fun k hk=>by
 have sy:k<ps.length:=by simpa using hk
 obtain⟨b,o,e,h0,h1,h2⟩:=h k sy;refine⟨b,o,e,?_⟩;simp only[List.getElem_map];exact⟨h0,h1,h2⟩
theorem hq_gr{w w':World}{ao:Option Addr}{ps:List (Int×Int)}(h:ag 3 RWc w ao ps)(hg:Gr w w'):ag 3 RWc w' ao ps:=h.gr RWc.mono hg
theorem sP{w:World}{ao:Option Addr}{ps:List Wri}(h:ag 3 dY w ao ps):∀x∈ps,qP x:=fun x hx=>by obtain⟨k,hk,rfl⟩:=List.getElem_of_mem hx;obtain⟨_,_,_,⟨_,w0⟩,⟨_,w1⟩,⟨_,w2⟩⟩:=h k hk;exact⟨w0,w1,w2⟩
section
variable (l:List Clk) (p:List Sup) (f t:List Int) (a b:Rls) (ms:List Lmt) (d:List Drw) (c:List Scl)
noncomputable def si:List Drw:=rsL l p (bK f (plW l ms f t)) d c
noncomputable def rJ:Rls:=ip p a (ip p (lO p (si l p f t ms d c)) b)
noncomputable def iF:Int:=
 if j5 l p f a ms d c/\j5 l p t b ms d c then
  if j3 l p f a ms d c/\j3 l p t b ms d c then
   if plE l ms f t=0 then
    if rsE l p (bK f (plW l ms f t)) d c=0 then lc p (si l p f t ms d c) else rsE l p (bK f (plW l ms f t)) d c
   else plE l ms f t
  else 7
 else 1
noncomputable def KQ:List Wri:=fV p a (rJ l p f t a b ms d c) d++(plW l ms f t).map wcl++fV p (rJ l p f t a b ms d c) b d
noncomputable def sW:List Wri:=if iF l p f t a b ms d c=0 then KQ l p f t a b ms d c else []
end
theorem yJ{w:World}{N T o:Nat}{vs:List Value}{v:Value}(h:Row w N T vs)(hv:∀u∈vs,∀x,u≠ .int .i64 x){b p:Nat}{x:Int}(c:w.cell? ⟨b,p,none⟩=some (.int .i64 x)):(w.setCell ⟨N,o,none⟩ v).cell? ⟨b,p,none⟩=some (.int .i64 x):=by
 rw[World.cell?_setCell_other]
 ·exact c
 intro q;have:N=b:=(by simpa using q:N=b/\o=p).1;subst this;unfold Row at h;simp only[World.cell?,h] at c;have c2:vs[p]?=some (.int .i64 x):=by simpa using c
 exact hv _ (List.mem_of_getElem? c2) _ rfl
theorem sN{w:World}{N T o:Nat}{vs:List Value}{v:Value}{ao:Option Addr}{ps:List Wri}(hs:ag 3 dY w ao ps)(h:Row w N T vs)(hv:∀u∈vs,∀x,u≠ .int .i64 x):ag 3 dY (w.setCell ⟨N,o,none⟩ v) ao ps:=fun k hk=>by obtain⟨b,p,e,⟨c0,w0⟩,⟨c1,w1⟩,⟨c2,w2⟩⟩:=hs k hk;exact⟨b,p,e,⟨yJ h hv c0,w0⟩,⟨yJ h hv c1,w1⟩,⟨yJ h hv c2,w2⟩⟩
theorem JM{w:World}{N T o:Nat}{vs:List Value}{v:Value}{ao:Option Addr}{ps:List Int}(hs:ag 1 RI w ao ps)(h:Row w N T vs)(hv:∀u∈vs,∀x,u≠ .int .i64 x):ag 1 RI (w.setCell ⟨N,o,none⟩ v) ao ps:=fun k hk=>by obtain⟨b,p,e,c0,w0⟩:=hs k hk;exact⟨b,p,e,yJ h hv c0,w0⟩
theorem ur(l:List Sup)(a b:Rls)(f1:Fit b.on.length)(f2:Fit b.level.length):Fit (ip l a b).on.length/\Fit (ip l a b).level.length:=by
 unfold ip;split
 ·rw[iH,jr];exact⟨f1,f2⟩
 simp[m7,Fit]
theorem yE{p:List Sup}{a b:Rls}{d:List Drw}(hp:p.length<=16):(fV p a b d).length<=64:=by
 unfold fV;split
 ·have:=GR p.length a b;omega
 simp
theorem WP(l:List Clk)(p:List Sup)(ss:List (List Int))(d:List Drw)(c:List Scl):(rsL l p ss d c).length<=32:=by
 unfold rsL;split
 ·rename_i h;unfold rsE at h;split at h
  ·split at h
   ·omega
   split at h
   ·omega
   omega
  omega
 simp
theorem cat3{W:World}{Bl:Nat}{x y z:List Wri}{ax ay az:Option Addr}{cx cy cz:Nat}{T:Nat}(hr:Row W Bl T [.slice ax x.length cx,.slice ay y.length cy,.slice az z.length cz])(hx:ag 3 dY W ax x)(hy:ag 3 dY W ay y)(hz:ag 3 dY W az z):
  CatM W Bl [x,y,z] (fun k=>if k=0 then ax else if k=1 then ay else az) (fun k=>if k=0 then cx else if k=1 then cy else cz):=fun k hk=>by
 have h3:k=0∨k=1∨k=2:=by simp at hk;omega
 rcases h3 with rfl|rfl|rfl
 ·exact⟨hr.cell 0 (by simp),hx⟩
 ·exact⟨hr.cell 1 (by simp),hy⟩
 exact⟨hr.cell 2 (by simp),hz⟩
theorem sG{l:List Clk}{p:List Sup}{f t:List Int}{a b:Rls}{ms:List Lmt}{d:List Drw}{c:List Scl}{w w':World}{x:Int}(he:iF l p f t a b ms d c=x)(hx:x≠0)(hg:Gr w w'):Cb w (sW l p f t a b ms d c) (iF l p f t a b ms d c) (.returned (.tuple #[.slice none 0 0,.int .i64 x])) w':=by
 have e:sW l p f t a b ms d c= []:=by unfold sW;rw[he,if_neg hx]
 rw[e,he];exact⟨none,0,rfl,Nat.le_refl _,ag.nil _ _ _ _,hg⟩
theorem tQ(l:List Clk)(p:List Sup)(f t:List Int)(a b:Rls)(ms:List Lmt)(d:List Drw)(c:List Scl)(al ap af at2 a1 a2 a3 a4 am ad ac:Option Addr)(cl cp cf ct k1 k2 k3 k4 cm cd cc:Nat)(w:World)(h:AS w l p ms d c al ap am ad ac)(hf:ag 1 RI w af f)(ht:ag 1 RI w at2 t)(ff:Fit f.length)(ft:Fit t.length)(ha:RlA w a1 a2 k1 k2 a)(hb:RlA w a3 a4 k3 k4 b):
  Calls Tryz.prog 11 #[.slice al l.length cl,.slice ap p.length cp,.slice af f.length cf,.slice at2 t.length ct,.agg #[.slice a1 a.on.length k1,.slice a2 a.level.length k2],.agg #[.slice a3 b.on.length k3,.slice a4 b.level.length k4],.slice am ms.length cm,.slice ad d.length cd,.slice ac c.length cc] w (Cb w (sW l p f t a b ms d c) (iF l p f t a b ms d c)):=by
 have V5:=aa h;have SF:=aa hf;have ST:=aa ht;have RA:=aa ha;have RBB:=aa hb;have V:Hid (qO w l ms f t al am af at2):=aa ⟨h.clks,h.fl,h.lmts,h.fm,hf,ff,ht,ft,h.off⟩;obtain⟨w0,nw⟩:∃w0:World,w0=((w.alloc (.cells #[.slice a1 a.on.length k1,.slice a2 a.level.length k2] 29)).alloc (.cells #[.slice a3 b.on.length k3,.slice a4 b.level.length k4] 29)).alloc (.cells #[.slice al l.length cl,.slice ap p.length cp,.slice am ms.length cm,.slice ad d.length cd,.slice ac c.length cc] 105):=⟨_,rfl⟩;have G0:Hid (Gr w w0):=aa (by rw[nw];exact(((gfl _).alloc _).alloc _).alloc _);have RX:Hid (Row w0 w.heap.size 29 [.slice a1 a.on.length k1,.slice a2 a.level.length k2]):=aa (by rw[nw];exact((Row.new w _ _).alloc _).alloc _);have RY:Hid (Row w0 (w.heap.size+1) 29 [.slice a3 b.on.length k3,.slice a4 b.level.length k4]):=aa (by rw[nw];have:=(Row.new (w.alloc (.cells #[.slice a1 a.on.length k1,.slice a2 a.level.length k2] 29)) #[.slice a3 b.on.length k3,.slice a4 b.level.length k4] 29).alloc (.cells #[.slice al l.length cl,.slice ap p.length cp,.slice am ms.length cm,.slice ad d.length cd,.slice ac c.length cc] 105);simpa using this);have RB:Hid (Row w0 (w.heap.size+1+1) 105 [.slice al l.length cl,.slice ap p.length cp,.slice am ms.length cm,.slice ad d.length cd,.slice ac c.length cc]):=aa (by rw[nw];have:=Row.new ((w.alloc (.cells #[.slice a1 a.on.length k1,.slice a2 a.level.length k2] 29)).alloc (.cells #[.slice a3 b.on.length k3,.slice a4 b.level.length k4] 29)) #[.slice al l.length cl,.slice ap p.length cp,.slice am ms.length cm,.slice ad d.length cd,.slice ac c.length cc] 105;simpa using this);have Z0:Hid (Gr w0 w0):=aa (gfl _);clear h hf ht ha hb;go_enter Tryz.func11,Tryz.ntmps11;go_upto_region 2 with fail;rw[<-nw];clear nw;obtain⟨x0,x1,x2,x3,x4,xh⟩:=jJ (RB.out.gr Z0.out);obtain⟨y0,y1,yh⟩:=ce (RX.out.gr Z0.out);obtain⟨z0,z1,zh⟩:=ce (RY.out.gr Z0.out);go_wp2_with fail;clear x0 x1 x2 x3 x4 xh y0 y1 yh z0 z1 zh;refine(Cj l p f a ms d c al ap am ad ac af a1 a2 cl cp cm cd cc cf k1 k2 w0 (V5.out.gr (G0.out.trans Z0.out)) (SF.out.giI (G0.out.trans Z0.out)) ff (RA.out.gr (G0.out.trans Z0.out))).mono ?_;rintro e w1 ⟨rfl,bD⟩;have Z1:=aa (Z0.out.trans bD);clear bD;by_cases e0:j5 l p f a ms d c
 ·have E0:=aa e0;rw[dtx e0];clear e0;obtain⟨x0,x1,x2,x3,x4,xh⟩:=jJ (RB.out.gr Z1.out);obtain⟨y0,y1,yh⟩:=ce (RX.out.gr Z1.out);obtain⟨z0,z1,zh⟩:=ce (RY.out.gr Z1.out);go_wp2_with fail;clear x0 x1 x2 x3 x4 xh y0 y1 yh z0 z1 zh;refine(Cj l p t b ms d c al ap am ad ac at2 a3 a4 cl cp cm cd cc ct k3 k4 w1 (V5.out.gr (G0.out.trans Z1.out)) (ST.out.giI (G0.out.trans Z1.out)) ft (RBB.out.gr (G0.out.trans Z1.out))).mono ?_;rintro e w2 ⟨rfl,bY⟩;have Z2:=aa (Z1.out.trans bY);clear bY;by_cases e1:j5 l p t b ms d c
  ·have E1:=aa e1;rw[dtx e1];clear e1;obtain⟨x0,x1,x2,x3,x4,xh⟩:=jJ (RB.out.gr Z2.out);obtain⟨y0,y1,yh⟩:=ce (RX.out.gr Z2.out);obtain⟨z0,z1,zh⟩:=ce (RY.out.gr Z2.out);go_wp2_with fail;clear x0 x1 x2 x3 x4 xh y0 y1 yh z0 z1 zh;refine(CD l p f a ms d c al ap am ad ac af a1 a2 cl cp cm cd cc cf k1 k2 w2 (V5.out.gr (G0.out.trans Z2.out)) (SF.out.giI (G0.out.trans Z2.out)) ff (RA.out.gr (G0.out.trans Z2.out)) E0.out).mono ?_;rintro e w3 ⟨rfl,cG⟩;have Z3:=aa (Z2.out.trans cG);clear cG;by_cases e2:j3 l p f a ms d c
   ·have E2:=aa e2;rw[dtx e2];clear e2;obtain⟨x0,x1,x2,x3,x4,xh⟩:=jJ (RB.out.gr Z3.out);obtain⟨y0,y1,yh⟩:=ce (RX.out.gr Z3.out);obtain⟨z0,z1,zh⟩:=ce (RY.out.gr Z3.out);go_wp2_with fail;clear x0 x1 x2 x3 x4 xh y0 y1 yh z0 z1 zh;refine(CD l p t b ms d c al ap am ad ac at2 a3 a4 cl cp cm cd cc ct k3 k4 w3 (V5.out.gr (G0.out.trans Z3.out)) (ST.out.giI (G0.out.trans Z3.out)) ft (RBB.out.gr (G0.out.trans Z3.out)) E1.out).mono ?_;rintro e w4 ⟨rfl,gy⟩;have Z4:=aa (Z3.out.trans gy);clear gy;by_cases e3:j3 l p t b ms d c
    ·have E3:=aa e3;rw[dtx e3];clear e3;obtain⟨x0,x1,x2,x3,x4,xh⟩:=jJ (RB.out.gr Z4.out);obtain⟨y0,y1,yh⟩:=ce (RX.out.gr Z4.out);obtain⟨z0,z1,zh⟩:=ce (RY.out.gr Z4.out);go_wp2_with fail;clear x0 x1 x2 x3 x4 xh y0 y1 yh z0 z1 zh;refine(PD l ms f t al am af at2 cl cm cf ct w4 (V.out.gr (G0.out.trans Z4.out))).mono ?_;rintro e w5 ⟨aq,cq,rfl,hq,hg⟩;have Z5:=aa (Z4.out.trans hg);have MQ:=aa hq;clear hg hq;have EP:Hid (iF l p f t a b ms d c=if plE l ms f t=0 then if rsE l p (bK f (plW l ms f t)) d c=0 then lc p (si l p f t ms d c) else rsE l p (bK f (plW l ms f t)) d c else plE l ms f t):=aa (by unfold iF;rw[if_pos ⟨E0.out,E1.out⟩,if_pos ⟨E2.out,E3.out⟩]);by_cases e5:plE l ms f t=0
     ·have E5:=aa e5;rw[e5];clear e5;have cz:Hid (bA l=0):=aa E0.out.1.1;have Xo:Hid (l.length<=16):=aa (cg (bm cz.out).1);have Xc:Hid (p.length<=16):=aa (p9 E0.out.2.2.1);have WOK:=aa (At (l:=l) (ms:=ms) (f:=f) (t:=t) cz.out);have fl:Hid (f.length<=16):=aa (by have h1:=E0.out.2.1.1;have h2:=Xo.out;omega);have SFit:Hid (∀s∈bK f (plW l ms f t),Fit s.length):=aa (fun s hs=>by
       obtain⟨i,hi,rfl⟩:=List.getElem_of_mem hs;have:=(Dy (plW l ms f t) E0.out.2.1 WOK.out.1 i hi).1;have h2:=Xo.out;unfold Fit;omega)
      have SL:Hid (Fit (bK f (plW l ms f t)).length):=aa (by rw[cQ];have:=WOK.out.2;unfold Fit;omega);obtain⟨x0,x1,x2,x3,x4,xh⟩:=jJ (RB.out.gr Z5.out);obtain⟨y0,y1,yh⟩:=ce (RX.out.gr Z5.out);obtain⟨z0,z1,zh⟩:=ce (RY.out.gr Z5.out);go_wp2_with fail;clear x0 x1 x2 x3 x4 xh y0 y1 yh z0 z1 zh;refine(CJ l ms f t al am af at2 aq cl cf cq w5 (V.out.gr (G0.out.trans Z5.out)) (Nat.le_trans fl.out (by decide)) MQ.out).mono ?_;rintro e w6 ⟨aS,cS,rfl,hs,hg⟩;have Z6:=aa (Z5.out.trans hg);have MS:=aa hs;have MQ2:=aa (Rc (hq_gr MQ.out hg));clear hs hg MQ;obtain⟨SS,hSS⟩:∃SS,bK f (plW l ms f t)=SS:=⟨_,rfl⟩;rw[hSS] at EP MS SFit SL ⊢;have RSD:Hid (si l p f t ms d c=rsL l p SS d c):=aa (by unfold si;rw[hSS]);clear hSS;obtain⟨x0,x1,x2,x3,x4,xh⟩:=jJ (RB.out.gr Z6.out);obtain⟨y0,y1,yh⟩:=ce (RX.out.gr Z6.out);obtain⟨z0,z1,zh⟩:=ce (RY.out.gr Z6.out);go_wp2_with fail;clear x0 x1 x2 x3 x4 xh y0 y1 yh z0 z1 zh;refine(Ta l p SS d c al ap aS ad ac cl cp cS cd cc w6 (V5.out.clks.gr cY.mono (G0.out.trans Z6.out)) (V5.out.sups.gr bG.mono (G0.out.trans Z6.out)) MS.out (V5.out.drws.gr cX.mono (G0.out.trans Z6.out)) (V5.out.scls.gr lN.mono (G0.out.trans Z6.out)) V5.out.fl V5.out.fp SL.out V5.out.fd V5.out.fc SFit.out (V5.out.off.gr (G0.out.trans Z6.out))).mono ?_;rintro e w7 ⟨aR,cR,rfl,hr,hg⟩;have Z7:=aa (Z6.out.trans hg);have MR:=aa hr;have MQ3:=aa (MQ2.out.gr dY.mono hg);clear hr hg MQ2 MS;have RL:=aa (WP l p SS d c);obtain⟨RR,hRR⟩:∃RR,rsL l p SS d c=RR:=⟨_,rfl⟩;rw[hRR] at RSD MR RL ⊢;rw[RSD.out] at EP;clear hRR;by_cases e7:rsE l p SS d c=0
      ·have EQ:Hid (iF l p f t a b ms d c=lc p RR):=aa (by rw[EP.out,if_pos E5.out,if_pos e7]);rw[e7];clear e7 EP;obtain⟨x0,x1,x2,x3,x4,xh⟩:=jJ (RB.out.gr Z7.out);obtain⟨y0,y1,yh⟩:=ce (RX.out.gr Z7.out);obtain⟨z0,z1,zh⟩:=ce (RY.out.gr Z7.out);go_wp2_with fail;clear x0 x1 x2 x3 x4 xh y0 y1 yh z0 z1 zh;refine(QT p RR ap aR cp cR w7 (V5.out.sups.gr bG.mono (G0.out.trans Z7.out)) V5.out.fp MR.out (by have:=RL.out;unfold Fit;omega)).mono ?_;rintro e w8 ⟨v,rfl,⟨b1,b2,d1,d2,rfl,s1,s2,g1,g2,g3,g4⟩,hg⟩;have Z8:=aa (Z7.out.trans hg);have ML:Hid (RlA w8 b1 b2 d1 d2 (lO p RR)):=aa ⟨s1,s2,g1,g3,g2,g4⟩;have MQ4:=aa (MQ3.out.gr dY.mono hg);clear s1 s2 g1 g2 g3 g4 hg MQ3 MR;obtain⟨LP,hLP⟩:∃LP,lO p RR=LP:=⟨_,rfl⟩;have TOP:Hid (rJ l p f t a b ms d c=ip p a (ip p LP b)):=aa (by unfold rJ;rw[RSD.out,hLP]);rw[hLP] at ML ⊢;clear hLP;by_cases e8:lc p RR=0
       ·have E0Q:Hid (iF l p f t a b ms d c=0):=aa (by rw[EQ.out,e8]);rw[e8];clear e8 EQ;obtain⟨x0,x1,x2,x3,x4,xh⟩:=jJ (RB.out.gr Z8.out);obtain⟨y0,y1,yh⟩:=ce (RX.out.gr Z8.out);obtain⟨z0,z1,zh⟩:=ce (RY.out.gr Z8.out);go_wp2_with fail;clear x0 x1 x2 x3 x4 xh y0 y1 yh z0 z1 zh;have ZA:=aa (Z8.out.trans ((gfl w8).alloc (.cells #[.slice b1 LP.on.length d1,.slice b2 LP.level.length d2] 29)));refine(Cx p LP b ap b1 b2 a3 a4 cp d1 d2 k3 k4 _ (V5.out.sups.gr bG.mono (G0.out.trans ZA.out)) V5.out.fp (ML.out.on.giB ((gfl w8).alloc (.cells #[.slice b1 LP.on.length d1,.slice b2 LP.level.length d2] 29))) (ML.out.lv.giI ((gfl w8).alloc (.cells #[.slice b1 LP.on.length d1,.slice b2 LP.level.length d2] 29))) (RBB.out.on.giB (G0.out.trans ZA.out)) (RBB.out.lv.giI (G0.out.trans ZA.out)) ML.out.k1 ML.out.k2 RBB.out.k1 RBB.out.k2 ML.out.f1 ML.out.f2 RBB.out.f1 RBB.out.f2).mono ?_;rintro e w9 ⟨j1,j2,e1,e2,rfl,q1,q2,s1,s2,hg⟩;have Z9:=aa (ZA.out.trans hg);have FT:=aa (ur p LP b RBB.out.f1 RBB.out.f2);obtain⟨T0,hT0⟩:∃T0,ip p LP b=T0:=⟨_,rfl⟩;rw[hT0] at TOP q1 q2 s1 s2 FT ⊢;have MT:Hid (RlA w9 j1 j2 e1 e2 T0):=aa ⟨s1,s2,q1,q2,FT.out.1,FT.out.2⟩;have MQ5:=aa (MQ4.out.gr dY.mono (((gfl w8).alloc (.cells #[.slice b1 LP.on.length d1,.slice b2 LP.level.length d2] 29)).trans hg));clear hT0 q1 q2 s1 s2 FT hg ML MQ4 ZA;obtain⟨x0,x1,x2,x3,x4,xh⟩:=jJ (RB.out.gr Z9.out);obtain⟨y0,y1,yh⟩:=ce (RX.out.gr Z9.out);obtain⟨z0,z1,zh⟩:=ce (RY.out.gr Z9.out);go_wp2_with fail;clear x0 x1 x2 x3 x4 xh y0 y1 yh z0 z1 zh;have ZB:=aa (Z9.out.trans ((gfl w9).alloc (.cells #[.slice j1 T0.on.length e1,.slice j2 T0.level.length e2] 29)));have RN0:=aa (Row.new w9 #[.slice j1 T0.on.length e1,.slice j2 T0.level.length e2] 29);refine(Cx p a T0 ap a1 a2 j1 j2 cp k1 k2 e1 e2 _ (V5.out.sups.gr bG.mono (G0.out.trans ZB.out)) V5.out.fp (RA.out.on.giB (G0.out.trans ZB.out)) (RA.out.lv.giI (G0.out.trans ZB.out)) (MT.out.on.giB ((gfl w9).alloc (.cells #[.slice j1 T0.on.length e1,.slice j2 T0.level.length e2] 29))) (MT.out.lv.giI ((gfl w9).alloc (.cells #[.slice j1 T0.on.length e1,.slice j2 T0.level.length e2] 29))) RA.out.k1 RA.out.k2 MT.out.k1 MT.out.k2 RA.out.f1 RA.out.f2 MT.out.f1 MT.out.f2).mono ?_;rintro e RH ⟨n1,n2,m1,m2,rfl,q1,q2,s1,s2,hg⟩;have Ni:=aa (ZB.out.trans hg);have FT:=aa (ur p a T0 MT.out.f1 MT.out.f2);obtain⟨T1,hT1⟩:∃T1,ip p a T0=T1:=⟨_,rfl⟩;rw[hT1] at TOP q1 q2 s1 s2 FT ⊢;have MU:Hid (RlA RH n1 n2 m1 m2 T1):=aa ⟨s1,s2,q1,q2,FT.out.1,FT.out.2⟩;have MQ6:=aa (MQ5.out.gr dY.mono (((gfl w9).alloc (.cells #[.slice j1 T0.on.length e1,.slice j2 T0.level.length e2] 29)).trans hg));have RN:=aa (RN0.out.gr hg);clear hT1 q1 q2 s1 s2 FT hg MT MQ5 ZB RN0;obtain⟨N,hN⟩:∃N,w9.heap.size=N:=⟨_,rfl⟩;have NL:Hid (w.heap.size+2<N):=aa (by have h1:=RB.out.has;have h2:=Z9.out.size;unfold Has at h1;omega);rw[hN] at RN ⊢;clear hN;obtain⟨v0,v1,vh⟩:=ce RN.out;have vf0:=RN.out.free 0;have vf1:=RN.out.free 1;obtain⟨x0,x1,x2,x3,x4,xh⟩:=jJ (RB.out.gr Ni.out);obtain⟨y0,y1,yh⟩:=ce (RX.out.gr Ni.out);obtain⟨z0,z1,zh⟩:=ce (RY.out.gr Ni.out);go_upto_region 18 with fail;clear x0 x1 x2 x3 x4 xh y0 y1 yh z0 z1 zh;obtain⟨Ev,hW12⟩:∃Ev:World,Ev=(RH.setCell ⟨N,0,none⟩ (.slice n1 T1.on.length m1)).setCell ⟨N,1,none⟩ (.slice n2 T1.level.length m2):=⟨_,rfl⟩;have Er:Hid (Gr w Ev):=aa (by rw[hW12];exact Gr.setc (by have:=NL.out;omega) (Gr.setc (by have:=NL.out;omega) (G0.out.trans Ni.out)));have RX12:=aa (show Row Ev _ _ _ by rw[hW12];exact((RX.out.gr Ni.out).oth (by have:=NL.out;omega)).oth (by have:=NL.out;omega));have RY12:=aa (show Row Ev _ _ _ by rw[hW12];exact((RY.out.gr Ni.out).oth (by have:=NL.out;omega)).oth (by have:=NL.out;omega));have RN12:=aa (show Row Ev _ _ _ by rw[hW12];exact wl RN.out);have MU12:Hid (RlA Ev n1 n2 m1 m2 T1):=aa (by rw[hW12];exact⟨uC (uC MU.out.on RN.out (by simp)) (RN.out.set 0 _) (by simp),JM (JM MU.out.lv RN.out (by simp)) (RN.out.set 0 _) (by simp),MU.out.k1,MU.out.k2,MU.out.f1,MU.out.f2⟩);have MQ12:Hid (ag 3 dY Ev aq ((plW l ms f t).map wcl)):=aa (by rw[hW12];exact sN (sN MQ6.out RN.out (by simp)) (RN.out.set 0 _) (by simp));rw[<-hW12];clear hW12 MU MQ6 RN v0 v1 vh vf0 vf1;obtain⟨y0,y1,yh⟩:=ce RX12.out;obtain⟨z0,z1,zh⟩:=ce RN12.out;go_wp2_with fail;clear y0 y1 yh z0 z1 zh;refine(Gx p a T1 d ap a1 a2 n1 n2 ad cp k1 k2 m1 m2 cd Ev (V5.out.sups.gr bG.mono Er.out) V5.out.fp (RA.out.on.giB Er.out) (RA.out.lv.giI Er.out) MU12.out.on MU12.out.lv (V5.out.drws.gr cX.mono Er.out) RA.out.k1 RA.out.k2 MU12.out.k1 MU12.out.k2 RA.out.f1 RA.out.f2 MU12.out.f1 MU12.out.f2 V5.out.fd).mono ?_;rintro e K9 ⟨u1,g1,rfl,lu1,su1,hg⟩;have Sz:=aa (Er.out.trans hg);have RY13:=aa (RY12.out.gr hg);have RN13:=aa (RN12.out.gr hg);have MU13:=aa (MU12.out.gr hg);have MQ13:=aa (MQ12.out.gr dY.mono hg);have SU1:=aa su1;clear su1 lu1 hg RX12 RY12 RN12 MU12 MQ12;have LA:=aa (yE (p:=p) (a:=a) (b:=T1) (d:=d) Xc.out);have LB:=aa (yE (p:=p) (a:=T1) (b:=b) (d:=d) Xc.out);obtain⟨UP,hUP⟩:∃UP,fV p a T1 d=UP:=⟨_,rfl⟩;have HUP:=aa hUP;rw[hUP] at SU1 LA ⊢;clear hUP;obtain⟨y0,y1,yh⟩:=ce RY13.out;obtain⟨z0,z1,zh⟩:=ce RN13.out;go_wp2_with fail;clear y0 y1 yh z0 z1 zh;refine(Gx p T1 b d ap n1 n2 a3 a4 ad cp m1 m2 k3 k4 cd K9 (V5.out.sups.gr bG.mono Sz.out) V5.out.fp MU13.out.on MU13.out.lv (RBB.out.on.giB Sz.out) (RBB.out.lv.giI Sz.out) (V5.out.drws.gr cX.mono Sz.out) MU13.out.k1 MU13.out.k2 RBB.out.k1 RBB.out.k2 MU13.out.f1 MU13.out.f2 RBB.out.f1 RBB.out.f2 V5.out.fd).mono ?_;rintro e zI ⟨u2,g2,rfl,lu2,su2,hg⟩;have YY:=aa (Sz.out.trans hg);have MQ14:=aa (MQ13.out.gr dY.mono hg);have SA1:=aa (SU1.out.gr dY.mono hg);have SB1:=aa su2;clear su2 lu2 hg RY13 RN13 MU13 MQ13 SU1;obtain⟨DN,hDN⟩:∃DN,fV p T1 b d=DN:=⟨_,rfl⟩;have HDN:=aa hDN;rw[hDN] at SB1 LB ⊢;clear hDN;go_wp2_with fail;have LQ:=aa WOK.out.2;obtain⟨Q,hQ⟩:∃Q,(plW l ms f t).map wcl=Q:=⟨_,rfl⟩;have HQ:=aa hQ;have yb:(plW l ms f t).length=Q.length:=(by rw[<-hQ,List.length_map]);rw[hQ] at MQ14;rw[yb] at LQ ⊢;clear hQ yb;refine(Ml [UP,Q,DN] zI.heap.size _ _ 3 _ (cat3 (Row.new zI _ _) (SA1.out.gr dY.mono ((gfl zI).alloc (.cells #[.slice u1 UP.length g1,.slice aq Q.length cq,.slice u2 DN.length g2] 36))) (MQ14.out.gr dY.mono ((gfl zI).alloc (.cells #[.slice u1 UP.length g1,.slice aq Q.length cq,.slice u2 DN.length g2] 36))) (SB1.out.gr dY.mono ((gfl zI).alloc (.cells #[.slice u1 UP.length g1,.slice aq Q.length cq,.slice u2 DN.length g2] 36)))) (by simp) (by simp;have h1:=LA.out;have h2:=LB.out;have h3:=LQ.out;omega)).mono ?_
        rintro e Xe ⟨v,rfl,ho,hg⟩;have Bj: [UP,Q,DN].flatten=UP++Q++DN:=(by simp);rw[Bj] at ho;have YD:=aa (YY.out.trans (((gfl zI).alloc (.cells #[.slice u1 UP.length g1,.slice aq Q.length cq,.slice u2 DN.length g2] 36)).trans hg));have EW:Hid (sW l p f t a b ms d c=UP++Q++DN):=aa (by unfold sW;rw[if_pos E0Q.out];unfold KQ;rw[TOP.out,HUP.out,HDN.out,HQ.out]);obtain⟨a9,c9,rfl,l9,s9⟩:=wA ho (fun x hx=>by
         rcases List.mem_append.1 hx with hx|hx
         ·rcases List.mem_append.1 hx with hx|hx
          ·exact sP SA1.out x hx
          exact sP MQ14.out x hx
         exact sP SB1.out x hx)
        have S9:=aa s9;have L9:=aa l9;clear s9 l9 ho hg Bj;obtain⟨LL,hLL⟩:∃LL,UP++Q++DN=LL:=⟨_,rfl⟩;rw[hLL] at S9 L9 EW ⊢;clear hLL;go_wp2_with fail;refine bodyPost_ret (v:= .tuple #[.slice a9 LL.length c9,.int .i64 0]) (by simp[results,Tryz.results11,go_sem]) rfl ?_;rw[E0Q.out,EW.out];exact⟨a9,c9,rfl,L9.out,S9.out,YD.out⟩
       have E:Hid (iF l p f t a b ms d c=lc p RR):=EQ;have NZ:=e8;obtain⟨x0,x1,x2,x3,x4,xh⟩:=jJ (RB.out.gr Z8.out);obtain⟨y0,y1,yh⟩:=ce (RX.out.gr Z8.out);obtain⟨z0,z1,zh⟩:=ce (RY.out.gr Z8.out);go_wp2_with fail;clear x0 x1 x2 x3 x4 xh y0 y1 yh z0 z1 zh;refine bodyPost_ret (v:= .tuple #[.slice none 0 0,.int .i64 (lc p RR)]) (by simp[results,Tryz.results11,go_sem]) rfl ?_;exact sG E.out NZ (((G0.out.trans Z8.out).alloc _))
      have E:Hid (iF l p f t a b ms d c=rsE l p SS d c):=aa (by rw[EP.out,if_pos E5.out,if_neg e7]);have NZ:=e7;obtain⟨x0,x1,x2,x3,x4,xh⟩:=jJ (RB.out.gr Z7.out);obtain⟨y0,y1,yh⟩:=ce (RX.out.gr Z7.out);obtain⟨z0,z1,zh⟩:=ce (RY.out.gr Z7.out);go_wp2_with fail;clear x0 x1 x2 x3 x4 xh y0 y1 yh z0 z1 zh;refine bodyPost_ret (v:= .tuple #[.slice none 0 0,.int .i64 (rsE l p SS d c)]) (by simp[results,Tryz.results11,go_sem]) rfl ?_;exact sG E.out NZ ((G0.out.trans Z7.out))
     have E:Hid (iF l p f t a b ms d c=plE l ms f t):=aa (by rw[EP.out,if_neg e5]);have NZ:=e5;obtain⟨x0,x1,x2,x3,x4,xh⟩:=jJ (RB.out.gr Z5.out);obtain⟨y0,y1,yh⟩:=ce (RX.out.gr Z5.out);obtain⟨z0,z1,zh⟩:=ce (RY.out.gr Z5.out);go_wp2_with fail;clear x0 x1 x2 x3 x4 xh y0 y1 yh z0 z1 zh;refine bodyPost_ret (v:= .tuple #[.slice none 0 0,.int .i64 (plE l ms f t)]) (by simp[results,Tryz.results11,go_sem]) rfl ?_;exact sG E.out NZ ((G0.out.trans Z5.out))
    have E:Hid (iF l p f t a b ms d c=7):=aa (by unfold iF;rw[if_pos ⟨E0.out,E1.out⟩,if_neg (fun q=>e3 q.2)]);rw[dfx e3];clear e3;obtain⟨x0,x1,x2,x3,x4,xh⟩:=jJ (RB.out.gr Z4.out);obtain⟨y0,y1,yh⟩:=ce (RX.out.gr Z4.out);obtain⟨z0,z1,zh⟩:=ce (RY.out.gr Z4.out);go_wp2_with fail;clear x0 x1 x2 x3 x4 xh y0 y1 yh z0 z1 zh;refine bodyPost_ret (v:= .tuple #[.slice none 0 0,.int .i64 7]) (by simp[results,Tryz.results11,go_sem]) rfl ?_;exact sG E.out (by decide) ((G0.out.trans Z4.out))
   have E:Hid (iF l p f t a b ms d c=7):=aa (by unfold iF;rw[if_pos ⟨E0.out,E1.out⟩,if_neg (fun q=>e2 q.1)]);rw[dfx e2];clear e2;obtain⟨x0,x1,x2,x3,x4,xh⟩:=jJ (RB.out.gr Z3.out);obtain⟨y0,y1,yh⟩:=ce (RX.out.gr Z3.out);obtain⟨z0,z1,zh⟩:=ce (RY.out.gr Z3.out);go_wp2_with fail;clear x0 x1 x2 x3 x4 xh y0 y1 yh z0 z1 zh;refine bodyPost_ret (v:= .tuple #[.slice none 0 0,.int .i64 7]) (by simp[results,Tryz.results11,go_sem]) rfl ?_;exact sG E.out (by decide) ((G0.out.trans Z3.out))
  have E:Hid (iF l p f t a b ms d c=1):=aa (by unfold iF;rw[if_neg (fun q=>e1 q.2)]);rw[dfx e1];clear e1;obtain⟨x0,x1,x2,x3,x4,xh⟩:=jJ (RB.out.gr Z2.out);obtain⟨y0,y1,yh⟩:=ce (RX.out.gr Z2.out);obtain⟨z0,z1,zh⟩:=ce (RY.out.gr Z2.out);go_wp2_with fail;clear x0 x1 x2 x3 x4 xh y0 y1 yh z0 z1 zh;refine bodyPost_ret (v:= .tuple #[.slice none 0 0,.int .i64 1]) (by simp[results,Tryz.results11,go_sem]) rfl ?_;exact sG E.out (by decide) ((G0.out.trans Z2.out))
 have E:Hid (iF l p f t a b ms d c=1):=aa (by unfold iF;rw[if_neg (fun q=>e0 q.1)]);rw[dfx e0];clear e0;obtain⟨x0,x1,x2,x3,x4,xh⟩:=jJ (RB.out.gr Z1.out);obtain⟨y0,y1,yh⟩:=ce (RX.out.gr Z1.out);obtain⟨z0,z1,zh⟩:=ce (RY.out.gr Z1.out);go_wp2_with fail;clear x0 x1 x2 x3 x4 xh y0 y1 yh z0 z1 zh;refine bodyPost_ret (v:= .tuple #[.slice none 0 0,.int .i64 1]) (by simp[results,Tryz.results11,go_sem]) rfl ?_;exact sG E.out (by decide) ((G0.out.trans Z1.out))
def NBox(w:World)(B:Nat)(x y:Value):Prop:=Row w B 29 [x,y]
def N7(wr:World)(r:Rls)(B8 b1 o1 b2 o2 c1 c2:Nat)(iA ik eM fw fg im kz oO ns nS:Value)(d:Array Bool)(w:World):Prop:=
 Gr wr w/\(d.getD 0 false=true->∃b,ik= .slice (some b) 0 0)/\
 (d.getD 1 false=true->eM= .pointer (some ⟨B8,0,none⟩))/\
 (d.getD 2 false=true->fw= .slice (some ⟨b1,o1,none⟩) r.on.length c1)/\
 (d.getD 3 false=true->∃B1 cO,fg= .slice (some ⟨B1,0,none⟩) r.on.length cO/\bd w B1 4 (bg r.on)/\wr.heap.size<=B1/\r.on.length<=cO)/\
 (d.getD 4 false=true->∃b,im= .slice (some b) 0 0)/\
 (d.getD 5 false=true->kz= .pointer (some ⟨B8,1,none⟩))/\
 (d.getD 6 false=true->oO= .slice (some ⟨b2,o2,none⟩) r.level.length c2)/\
 (d.getD 7 false=true->∃B2 cL,ns= .slice (some ⟨B2,0,none⟩) r.level.length cL/\bd w B2 3 (an r.level)/\wr.heap.size<=B2/\r.level.length<=cL)/\
 (d.getD 8 false=true->d.getD 3 false=true/\d.getD 7 false=true/\nS= .agg #[fg,ns])/\
 (d.getD 9 false=true->∃sj,iA= .pointer (some ⟨sj,0,none⟩)/\wr.heap.size<=sj/\(d.getD 10 false=false->Row w sj 29 [.slice none 0 0,.slice none 0 0]))/\
 (d.getD 10 false=true->(∀j,j<10->d.getD j false=true)/\∃sj,iA= .pointer (some ⟨sj,0,none⟩)/\NBox w sj fg ns)
def N7A(B8:Nat)(iA ik eM fw fg im kz oO ns nS s0 s1 s2 s3 s4 s5 s6 s7 s9 fQ ei cI cJ dc dg dk di cK de dQ dI eG dB dD dv dC du dJ dK dO dM dN eg eY eT eV eF eN fG fH fJ fL gK gi gd eZ gY g9 ii hO g7 gZ g8 gV gT gS:Value):Act:={tmps:= #[s0,s1,s2,s3,s4,s5,s6,s7,.pointer (some ⟨B8,0,none⟩),s9,fQ,iA,ei,cI,cJ,dc,dg,dk,di,cK,de,dQ,dI,eG,dB,dD,dv,dC,du,ik,eM,fw,fg,im,kz,oO,ns,nS,dJ,dK,dO,dM,dN,eg,eY,eT,eV,eF,eN,fG,fH,fJ,fL,gK,gi,gd,eZ,gY,g9,ii,hO,g7,gZ,g8,gV,gT,gS],defers:= []}
theorem Wm{Q:Exit->Act->World->Prop}{wr:World}{B8 b1 o1 b2 o2 c1 c2:Nat}{r:Rls}{s0 s1 s2 s3 s4 s5 s6 s7 s9 fQ dR ei cI cJ dc dg dk di cK de dQ dI eG dB dD dv dC du eH eQ eW eO eI ec dP dL dE dJ dK dO dM dN eg eY eT eV eF eN fG fH fJ fL gK gi gd eZ gY g9 ii hO g7 gZ g8 gV gT gS:Value}(r0:wr.cell? ⟨B8,0,none⟩=some (.slice (some ⟨b1,o1,none⟩) r.on.length c1))(r1:wr.cell? ⟨B8,1,none⟩=some (.slice (some ⟨b2,o2,none⟩) r.level.length c2))
  (h1:ag 1 RB wr (some ⟨b1,o1,none⟩) r.on) (h2:ag 1 RI wr (some ⟨b2,o2,none⟩) r.level) (p1:0<r.on.length) (p2:0<r.level.length) (f1':r.on.length<=1000000) (f2':r.level.length<=1000000)
  (h:∀ik eM fw fg im kz oO ns nS sj B1 B2 cO cL wx,Row wx sj 29 [.slice (some ⟨B1,0,none⟩) r.on.length cO,.slice (some ⟨B2,0,none⟩) r.level.length cL]->bd wx B1 4 (bg r.on)->bd wx B2 3 (an r.level)->wr.heap.size<=sj->wr.heap.size<=B1->wr.heap.size<=B2->r.on.length<=cO->r.level.length<=cL->Gr wr wx->Q .normal (N7A B8 (.pointer (some ⟨sj,0,none⟩)) ik eM fw fg im kz oO ns nS s0 s1 s2 s3 s4 s5 s6 s7 s9 fQ ei cI cJ dc dg dk di cK de dQ dI eG dB dD dv dC du dJ dK dO dM dN eg eY eT eV eF eN fG fH fJ fL gK gi gd eZ gY g9 ii hO g7 gZ g8 gV gT gS) wx):
  (Code.region 7 (fr 7 Tryz.f25) true).wp Tryz.prog Q {tmps:= #[s0,s1,s2,s3,s4,s5,s6,s7,.pointer (some ⟨B8,0,none⟩),s9,fQ,dR,ei,cI,cJ,dc,dg,dk,di,cK,de,dQ,dI,eG,dB,dD,dv,dC,du,eH,eQ,eW,eO,eI,ec,dP,dL,dE,dJ,dK,dO,dM,dN,eg,eY,eT,eV,eF,eN,fG,fH,fJ,fL,gK,gi,gd,eZ,gY,g9,ii,hO,g7,gZ,g8,gV,gT,gS],defers:= []} wr:=by
 have H1:=PLift.up h1;have H2:=PLift.up h2;clear h1 h2;obtain⟨i0,hi,dt,da,cN⟩:=info_parts eS;obtain⟨j0,hj,kN,ka,lg⟩:=info_parts pe;simp only[fr,Tryz.f25,gM,Option.bind_some,Option.getD_some,Nat.beq,cond_true,cond_false];refine dW (fun done a w=>∃iA ik eM fw fg im kz oO ns nS,a=N7A B8 iA ik eM fw fg im kz oO ns nS s0 s1 s2 s3 s4 s5 s6 s7 s9 fQ ei cI cJ dc dg dk di cK de dQ dI eG dB dD dv dC du dJ dK dO dM dN eg eY eT eV eF eN fG fH fJ fL gK gi gd eZ gY g9 ii hO g7 gZ g8 gV gT gS/\N7 wr r B8 b1 o1 b2 o2 c1 c2 iA ik eM fw fg im kz oO ns nS done w) (by kernel_rfl) (by kernel_rfl) ?_ ⟨?_,?_,?_,?_,?_,?_,?_,?_,?_,?_,?_,trivial⟩ ?_
 ·exact⟨dR,eH,eQ,eW,eO,eI,ec,dP,dL,dE,rfl,(gfl _).drew,fun q=>absurd q (by decide),fun q=>absurd q (by decide),fun q=>absurd q (by decide),fun q=>absurd q (by decide),fun q=>absurd q (by decide),fun q=>absurd q (by decide),fun q=>absurd q (by decide),fun q=>absurd q (by decide),fun q=>absurd q (by decide),fun q=>absurd q (by decide),fun q=>absurd q (by decide)⟩
 rotate_right
 ·rintro done a w aH ⟨iA,ik,eM,fw,fg,im,kz,oO,ns,nS,rfl,gw,f0,f1,f2,f3,f4,f5,f6,f7,f8,f9,f10⟩;obtain⟨B1,cO,rfl,q1,q2,q3⟩:=f3 (aH 3 (by decide));obtain⟨B2,cL,rfl,q4,q5,q6⟩:=f7 (aH 7 (by decide));obtain⟨sj,rfl,q7,_⟩:=f9 (aH 9 (by decide));obtain⟨_,B,e,q8⟩:=f10 (aH 10 (by decide));cases e
  exact h _ _ _ _ _ _ _ _ _ sj B1 B2 cO cL w q8 q1 q4 q7 q2 q5 q3 q6 gw
 all_goals(rintro done a w iB fD aO ⟨iA,ik,eM,fw,fg,im,kz,oO,ns,nS,rfl,gw,f0,f1,f2,f3,f4,f5,f6,f7,f8,f9,f10⟩ K hK;have hn:=nd fD;have HK:=PLift.up hK;clear hK)
 ·simp only[N7A];go_simp;have gg:Gr w (w.alloc (.cells #[] 4)):=(gfl _).alloc _;refine HK.down _ _ ⟨_,_,_,_,_,_,_,_,_,_,rfl,gw.trans gg,?_,kp f1,kp f2,ku f3,kp f4,kp f5,kp f6,ku f7,ku f8,ku f9,fun q=>absurd ((f10 (aj q (by decide))).1 0 (by decide)) hn⟩;exact fun _=>⟨_,rfl⟩
 ·simp only[N7A];go_simp;have gg:=gfl w;refine HK.down _ _ ⟨_,_,_,_,_,_,_,_,_,_,rfl,gw,kp f0,?_,kp f2,ku f3,kp f4,kp f5,kp f6,ku f7,ku f8,ku f9,fun q=>absurd ((f10 (aj q (by decide))).1 1 (by decide)) hn⟩;exact fun _=>rfl
 ·have d1:=aO 1 (by kernel_rfl);obtain rfl:=f1 d1;have c0:=aB gw r0;have ch:=ae c0;simp only[N7A];go_simp;have gg:=gfl w;refine HK.down _ _ ⟨_,_,_,_,_,_,_,_,_,_,rfl,gw,kp f0,kp f1,?_,ku f3,kp f4,kp f5,kp f6,ku f7,ku f8,ku f9,fun q=>absurd ((f10 (aj q (by decide))).1 2 (by decide)) hn⟩;exact fun _=>rfl
 ·have d0:=aO 0 (by kernel_rfl);have d2:=aO 2 (by kernel_rfl);obtain⟨bE,rfl⟩:=f0 d0;obtain rfl:=f2 d2;refine mm _ rfl _ _ 27 rfl 4 j0 (.bool false) 1 Tryz.underlying27 hj kN ka lg bE ⟨b1,o1,none⟩ r.on.length c1 (bg r.on) (by simp[Act.eval,N7A]) (by simp[Act.eval,N7A]) (by simp[bg]) (AB (H1.down.giB gw)) p1 f1' (by omega) _ rfl ?_;intro cO ZO hcO;have gg:Gr w (w.drew.alloc (.cells ((bg r.on).toArray++ZO) 4)):=(Gr.drew (gfl _)).alloc _;refine HK.down _ _ ⟨_,_,_,_,_,_,_,_,_,_,rfl,gw.trans gg,kp f0,kp f1,kp f2,?_,kp f4,kp f5,kp f6,ku f7,fun q=>absurd (f8 (aj q (by decide))).1 hn,ku f9,fun q=>absurd ((f10 (aj q (by decide))).1 3 (by decide)) hn⟩;exact fun _=>⟨_,_,rfl,AW w.drew _ _ _,gw.size,hcO⟩
 ·simp only[N7A];go_simp;have gg:Gr w (w.alloc (.cells #[] 3)):=(gfl _).alloc _;refine HK.down _ _ ⟨_,_,_,_,_,_,_,_,_,_,rfl,gw.trans gg,kp f0,kp f1,kp f2,ku f3,?_,kp f5,kp f6,ku f7,ku f8,ku f9,fun q=>absurd ((f10 (aj q (by decide))).1 4 (by decide)) hn⟩;exact fun _=>⟨_,rfl⟩
 ·simp only[N7A];go_simp;have gg:=gfl w;refine HK.down _ _ ⟨_,_,_,_,_,_,_,_,_,_,rfl,gw,kp f0,kp f1,kp f2,ku f3,kp f4,?_,kp f6,ku f7,ku f8,ku f9,fun q=>absurd ((f10 (aj q (by decide))).1 5 (by decide)) hn⟩;exact fun _=>rfl
 ·have d5:=aO 5 (by kernel_rfl);obtain rfl:=f5 d5;have c0:=aB gw r1;have ch:=ae c0;simp only[N7A];go_simp;have gg:=gfl w;refine HK.down _ _ ⟨_,_,_,_,_,_,_,_,_,_,rfl,gw,kp f0,kp f1,kp f2,ku f3,kp f4,kp f5,?_,ku f7,ku f8,ku f9,fun q=>absurd ((f10 (aj q (by decide))).1 6 (by decide)) hn⟩;exact fun _=>rfl
 ·have d4:=aO 4 (by kernel_rfl);have d6:=aO 6 (by kernel_rfl);obtain⟨bE,rfl⟩:=f4 d4;obtain rfl:=f6 d6;refine mm _ rfl _ _ 22 rfl 3 i0 (.int .i64 0) 8 Tryz.underlying22 hi dt da cN bE ⟨b2,o2,none⟩ r.level.length c2 (an r.level) (by simp[Act.eval,N7A]) (by simp[Act.eval,N7A]) (by simp[an]) (rA (H2.down.giI gw)) p2 f2' (by omega) _ rfl ?_;intro cO ZO hcO;have gg:Gr w (w.drew.alloc (.cells ((an r.level).toArray++ZO) 3)):=(Gr.drew (gfl _)).alloc _;refine HK.down _ _ ⟨_,_,_,_,_,_,_,_,_,_,rfl,gw.trans gg,kp f0,kp f1,kp f2,ku f3,kp f4,kp f5,kp f6,?_,fun q=>absurd (f8 (aj q (by decide))).2.1 hn,ku f9,fun q=>absurd ((f10 (aj q (by decide))).1 7 (by decide)) hn⟩;exact fun _=>⟨_,_,rfl,AW w.drew _ _ _,gw.size,hcO⟩
 ·have d3:=aO 3 (by kernel_rfl);have d7:=aO 7 (by kernel_rfl);obtain⟨B1,cO,rfl,_⟩:=f3 d3;obtain⟨B2,cL,rfl,_⟩:=f7 d7;simp only[N7A];go_simp;have gg:=gfl w;refine HK.down _ _ ⟨_,_,_,_,_,_,_,_,_,_,rfl,gw,kp f0,kp f1,kp f2,ku f3,kp f4,kp f5,kp f6,ku f7,?_,ku f9,fun q=>absurd ((f10 (aj q (by decide))).1 8 (by decide)) hn⟩;exact fun _=>⟨getD_set_true d3,getD_set_true d7,rfl⟩
 ·simp only[N7A];go_simp;have gg:Gr w (w.alloc (.cells #[.slice none 0 0,.slice none 0 0] 29)):=(gfl _).alloc _;refine HK.down _ _ ⟨_,_,_,_,_,_,_,_,_,_,rfl,gw.trans gg,kp f0,kp f1,kp f2,ku f3,kp f4,kp f5,kp f6,ku f7,ku f8,?_,fun q=>absurd ((f10 (aj q (by decide))).1 9 (by decide)) hn⟩;exact fun _=>⟨_,rfl,gw.size,fun _=>Row.new w _ _⟩
 have d0:=aO 0 (by kernel_rfl);have d1:=aO 1 (by kernel_rfl);have d2:=aO 2 (by kernel_rfl);have d3:=aO 3 (by kernel_rfl);have d4:=aO 4 (by kernel_rfl);have d5:=aO 5 (by kernel_rfl);have d6:=aO 6 (by kernel_rfl);have d7:=aO 7 (by kernel_rfl);have d8:=aO 8 (by kernel_rfl);have d9:=aO 9 (by kernel_rfl);obtain⟨B1,cO,rfl,q1,q2,q3⟩:=f3 d3;obtain⟨B2,cL,rfl,q4,q5,q6⟩:=f7 d7;obtain⟨sj,rfl,q7,q8⟩:=f9 d9;obtain⟨_,_,rfl⟩:=f8 d8;have q9:=q8 (getD_both fD);have y0:=q9.cell 0 (by simp);have y1:=q9.cell 1 (by simp);have y2:=q9.free 0;have y3:=q9.free 1;have yh:=q9.has;simp only[List.getElem_cons_zero,List.getElem_cons_succ] at y0 y1;simp only[N7A];go_simp;refine HK.down _ _ ⟨_,_,_,_,_,_,_,_,_,_,rfl,(gw.setc q7).setc q7,kp f0,fun _=>rfl,fun _=>rfl,?_,kp f4,fun _=>rfl,fun _=>rfl,?_,fun _=>⟨getD_set_true d3,getD_set_true d7,rfl⟩,?_,?_⟩
 ·exact fun _=>⟨B1,cO,rfl,(q1.oth (q9.s.apart q1 (by decide))).oth (q9.s.apart q1 (by decide)),q2,q3⟩
 ·exact fun _=>⟨B2,cL,rfl,(q4.oth (q9.s.apart q4 (by decide))).oth (q9.s.apart q4 (by decide)),q5,q6⟩
 ·exact fun _=>⟨sj,rfl,q7,fun q=>absurd q (by rw[fi (by rw[iB];decide)];decide)⟩
 exact fun _=>⟨fun j hj=>getD_set_true (by rcases j with _|_|_|_|_|_|_|_|_|_|j<;>first|assumption|omega),sj,rfl,(q9.set 0 _).set 1 _⟩
theorem Xr{b len:Nat}{w:World}{a:Option Addr}{xs:List Bool}(h:ag 1 RB w a xs)(ht:Tp w b len):gP b w (fun W=>ag 1 RB W a xs):=by obtain⟨p,ao,cap,_,c1,_⟩:=ht;exact fun q=>h.keepB c1 (by intro x e;cases e)
theorem WV{b:Nat}{w:World}{B:Nat}{xs:List Int}(h:ag 1 RI w (some ⟨B,0,none⟩) xs)(hB:B≠b):gP b w (fun W=>ag 1 RI W (some ⟨B,0,none⟩) xs):=by
 intro p k hk;obtain⟨b',o',e,q⟩:=h k hk;cases e
 refine⟨B,0,rfl,?_,q.2⟩;rw[World.cell?_setCell_other]
 ·exact q.1
 simp[Ne.symm hB]
theorem Qw{b:Nat}{w:World}{a:Option Addr}{xs:List Int}(h:xs.length=0):gP b w (fun W=>ag 1 RI W a xs):=by have:xs= []:=List.eq_nil_of_length_eq_zero h;subst this;exact fun _=>ag.nil _ _ _ _
theorem QD{l:List Sup}{d:List Drw}{w w':World}{b len:Nat}(ht:Tp w b len){r:Rls}{v:Value}(hg:Gr w w')(hv:Ay w' v r)(hf:Gd w v r):VH b w' v r:=by
 obtain⟨a1,a2,c1,c2,rfl,s1,s2,k1,_,k2,_⟩:=hv;have t':=ht.gr hg;refine⟨a1,a2,c1,c2,rfl,k1,k2,Xr s1 t',?_⟩;rcases hf with e|⟨x1,n1,d1,B,d2,e,hB⟩
 ·exact Qw e
 simp only[Value.agg.injEq,Array.mk.injEq,List.cons.injEq,Value.slice.injEq] at e;obtain⟨_,⟨rfl,_,_⟩,_⟩:=e;exact WV s2 (by have:=ht.has;omega)
theorem Li(w:World)(b c o p:Nat)(u v:Value)(h:b≠c):(w.setCell ⟨c,o,none⟩ u).setCell ⟨b,p,none⟩ v=(w.setCell ⟨b,p,none⟩ v).setCell ⟨c,o,none⟩ u:=by
 simp only[World.setCell];congr 1;apply Array.ext_getElem?;intro k;simp only[Array.getElem?_modify];by_cases e1:b=k<;>by_cases e2:c=k
 ·omega
 ·simp[e1,e2]
 ·simp[e1,e2]
 simp[e1,e2]
theorem VH.box{b:Nat}{w:World}{v:Value}{r:Rls}(h:VH b w v r){c o:Nat}{s1:Option Addr}{n1 k1:Nat}{u:Value}(hc:w.cell? ⟨c,o,none⟩=some (.slice s1 n1 k1))(hb:c≠b):VH b (w.setCell ⟨c,o,none⟩ u) v r:=by
 obtain⟨a1,a2,c1,c2,e,k1',k2',h1,h2⟩:=h;refine⟨a1,a2,c1,c2,e,k1',k2',fun p=>?_,fun p=>?_⟩
 ·rw[Li _ _ _ _ _ _ _ (Ne.symm hb)];refine(h1 p).keepB (v:= .slice s1 n1 k1) ?_ (by intro x e;cases e);rw[World.cell?_setCell_other]
  ·exact hc
  simp[Ne.symm hb]
 rw[Li _ _ _ _ _ _ _ (Ne.symm hb)];refine(h2 p).keepI (v:= .slice s1 n1 k1) ?_ (by intro k x e;cases e);rw[World.cell?_setCell_other]
 ·exact hc
 simp[Ne.symm hb]
theorem VH.gr{b:Nat}{w w':World}{v:Value}{r:Rls}(h:VH b w v r)(hb:b<w.heap.size)(hg:Gr w w'):VH b w' v r:=by obtain⟨a1,a2,c1,c2,e,k1,k2,h1,h2⟩:=h;exact⟨a1,a2,c1,c2,e,k1,k2,h1.gr hb hg (Fn _ _),h2.gr hb hg (yj _ _)⟩
theorem rO{l:List Sup}{a b:Rls}{d:List Drw}(ha:bi l a d)(hb:bi l b d):gj l a b d=0:=by have:iL l [a,b]=0:=Cd ha.1.1 (by simp;exact⟨ha.2.1,hb.2.1⟩);rw[gj,if_pos this,if_pos ha.1,if_pos ⟨ha,hb⟩]
noncomputable def ptAt(q:List Int×Rls)(x:Wri):List Int×Rls:=if x.kind=1 then(q.1.set x.unit.toNat x.value,q.2) else(q.1,Sg q.2 x)
noncomputable def QH(q:List Int×Rls)(ws:List Wri):List Int×Rls:=ws.foldl ptAt q
structure Chain(P:List Int×Rls->Prop)(Q:List Int×Rls->Wri->Prop)(q0:List Int×Rls)(ws:List Wri)(q1:List Int×Rls):Prop where
 at_:∀i,i<=ws.length->P (QH q0 (ws.take i))
 by_:∀i (hi:i<ws.length),Q (QH q0 (ws.take i)) ws[i]
 end_:QH q0 ws=q1
structure QX(l:List Clk)(ms:List Lmt)(f t:List Int)(ps:List (Int×Int)):Prop where
 wr:∀p∈ps,xJ l p
 last:(bK f ps)[ps.length]'(by rw[cQ];omega)=t
 calm:∀i (hi:i<(bK f ps).length),aG l ms (bK f ps)[i]=true
 ok:∀i (hi:i<(bK f ps).length),aI l (bK f ps)[i]
theorem J9{l:List Clk}{ms:List Lmt}{f t:List Int}(h:plE l ms f t=0):QX l ms f t (plW l ms f t):=by
 by_cases h0:ju l ms f t=0
 ·obtain⟨lo,fo,tO,fc,tc⟩:=sQ h0;cases hd:dS l (aG l ms) t f with
  |none=>rw[(yI h0 hd).1] at h;cases h
  |some d=>rw[(ww h0 (by rw[hd];simp)).2];have hD:=IR (l:=l) (cal:=aG l ms) tO tc;obtain⟨h1,h2⟩:=yO hD hd;exact⟨h1,EH hD hd,fun i hi=>(hD.ok _ _ (h2 i hi)).2,fun i hi=>(hD.ok _ _ (h2 i hi)).1⟩
 rw[(uD h0).1] at h;exact absurd h h0
section
variable {l:List Clk} {p:List Sup} {f t:List Int} {a b:Rls} {ms:List Lmt} {d:List Drw} {c:List Scl}
structure PlnOk(l:List Clk)(p:List Sup)(f t:List Int)(a b:Rls)(ms:List Lmt)(d:List Drw)(c:List Scl)(T:Rls):Prop where
 wf:j5 l p f a ms d c
 wt:j5 l p t b ms d c
 sf:j3 l p f a ms d c
 st:j3 l p t b ms d c
 path:QX l ms f t (plW l ms f t)
 top:bi p T d
 scl:∀x∈c,∀s∈bK f (plW l ms f t),mr p (rts l s) T x
 geA:∀i,i<p.length->aQ a i=true->aQ T i=true/\aF a i<=aF T i
 geB:∀i,i<p.length->aQ b i=true->aQ T i=true/\aF b i<=aF T i
 lenF:(iG [rts l f] d c).length<=32
 lenT:(iG [rts l t] d c).length<=32
 eqL:sW l p f t a b ms d c=l6 p.length a T++(plW l ms f t).map wcl++l6 p.length T b
 eqU:fV p a T d=l6 p.length a T
 eqD:fV p T b d=l6 p.length T b
theorem Xn{nl:Nat}{x:Scl}(h:kU nl p.length x):x.supply.toNat<p.length:=by obtain⟨_,_,h1,h2,_⟩:=h;omega
theorem Uy(h:iF l p f t a b ms d c=0):PlnOk l p f t a b ms d c (rJ l p f t a b ms d c):=by
 have Rw:=h;unfold iF at h;split at h;rotate_left
 ·cases h
 rename_i hW;obtain⟨wf,wt⟩:=hW;split at h;rotate_left
 ·cases h
 rename_i hS;obtain⟨sf,st⟩:=hS;split at h;rotate_left
 ·rename_i hq;exact absurd h hq
 rename_i hp;split at h;rotate_left
 ·rename_i hq;exact absurd h hq
 rename_i hr;have path:=J9 hp;obtain⟨Rs,hRs⟩:∃Rs,fz l (bK f (plW l ms f t))=Rs:=⟨_,rfl⟩;have hrs:si l p f t ms d c=iG Rs d c:=by unfold si rsL;rw[if_pos hr,hRs]
 have zE:¬IY Rs c/\(iG Rs d c).length<=32:=by
  unfold rsE at hr;rw[hRs] at hr;split at hr
  ·split at hr
   ·cases hr
   rename_i h1;split at hr
   ·cases hr
   exact⟨h1,by omega⟩
  cases hr
 have hsc:=wf.1.2.2.2;have LM:=Mf h;rw[hrs] at LM;have LD:=(Rn (r:=lO p (iG Rs d c)) wf.2.2.2.2 hsc zE.2 zE.1).1 LM;obtain⟨LP,hLP⟩:∃LP,lO p (iG Rs d c)=LP:=⟨_,rfl⟩;rw[hLP] at LM LD;have ma:=sf.2.1;have mb:=st.2.1;have rE:=ma.1.1;have j1:ip p LP b=aT LP b:=by unfold ip;rw[if_pos (Cd rE (fun r hr=>by rcases List.mem_cons.1 hr with rfl|hr;exact LD.1.2.1;rw[List.mem_singleton.1 hr];exact mb.2.1))]
 have mJ:=Et LD.1 mb;have j2:ip p a (aT LP b)=aT a (aT LP b):=by unfold ip;rw[if_pos (Cd rE (fun r hr=>by rcases List.mem_cons.1 hr with rfl|hr;exact ma.2.1;rw[List.mem_singleton.1 hr];exact mJ.2.1))]
 have hT:rJ l p f t a b ms d c=aT a (aT LP b):=by unfold rJ;rw[hrs,hLP,j1,j2]
 have mT:=Et ma mJ;have upJ:∀i,i<p.length->aQ (aT LP b) i=true->aQ (aT a (aT LP b)) i=true/\aF (aT LP b) i<=aF (aT a (aT LP b)) i:=fun i hi ho=>⟨by rw[lT mJ.2.1 hi,ho];simp,zP mJ.2.1 hi ho⟩;have upL:∀i,i<p.length->aQ LP i=true->aQ (aT LP b) i=true/\aF LP i<=aF (aT LP b) i:=fun i hi ho=>⟨by rw[lT mb.2.1 hi,ho];simp,Ag mb.2.1 hi ho⟩;have upB:∀i,i<p.length->aQ b i=true->aQ (aT LP b) i=true/\aF b i<=aF (aT LP b) i:=fun i hi ho=>⟨by rw[lT mb.2.1 hi,ho];simp,zP mb.2.1 hi ho⟩;have hf:rts l f∈Rs:=by rw[<-hRs];exact List.mem_map_of_mem (by simp[bK])
 have ht:rts l t∈Rs:=by rw[<-hRs];refine List.mem_map_of_mem ?_;have e:(bK f (plW l ms f t))[(plW l ms f t).length]'(by rw[cQ];omega)∈bK f (plW l ms f t):=List.getElem_mem _;rwa [path.last] at e
 rw[hT];have eU:fV p a (aT a (aT LP b)) d=l6 p.length a (aT a (aT LP b)):=by unfold fV;rw[if_pos (rO ma mT)]
 have eD:fV p (aT a (aT LP b)) b d=l6 p.length (aT a (aT LP b)) b:=by unfold fV;rw[if_pos (rO mT mb)]
 refine⟨wf,wt,sf,st,path,mT,fun x hx s hs=>?_,fun i hi ho=>⟨by rw[lT mJ.2.1 hi,ho];simp,Ag mJ.2.1 hi ho⟩,fun i hi ho=>?_,?_,?_,?_,eU,eD⟩
 ·have hR:rts l s∈Rs:=by rw[<-hRs];exact List.mem_map_of_mem hs
  have jm:=Xn (hsc x hx);exact Iw mJ.2.1 mT.2.1 jm (upJ _ jm) (Iw LD.1.2.1 mJ.2.1 jm (upL _ jm) (LD.2 x hx _ hR))
 ·obtain⟨q1,q2⟩:=upB i hi ho;obtain⟨q3,q4⟩:=upJ i hi q1;exact⟨q3,by omega⟩
 ·have:=Cq (d:=d) (Rs:= [rts l f]) (Rs':=Rs) c (fun R hR=>by rw[List.mem_singleton.1 hR];exact hf);omega
 ·have:=Cq (d:=d) (Rs:= [rts l t]) (Rs':=Rs) c (fun R hR=>by rw[List.mem_singleton.1 hR];exact ht);omega
 unfold sW;rw[if_pos Rw];unfold KQ;rw[hT,eU,eD]
end
end Go.Proofs.YtlmhkjdkcoiioaaGreatDoor
