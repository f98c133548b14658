/- Lemmas and contracts for the proof of PointAlone (several texts in one, printed by wip/tools/pack.py): QaDa QaDc QaDe. -/
import Derived.Test.YtlmhkjdkcoiioaaGreatDoorAl8pB
import Derived.Test.YtlmhkjdkcoiioaaGreatDoorAl8pu
import Derived.Test.YtlmhkjdkcoiioaaGreatDoorAl8pp
set_option maxRecDepth 100000
set_option maxHeartbeats 16000000
set_option linter.unusedVariables false
set_option linter.unusedSimpArgs false
namespace Go.Proofs.YtlmhkjdkcoiioaaGreatDoor
section
open Go.RowKit
open Classical
structure D1(W0 wr:World)(b4 b5:Nat)(w:World):Prop where
 gr:Gr W0 w
 sz:wr.heap.size<=w.heap.size
 r4:∃v,Row w b4 167 [v]
 r5:∃v,Row w b5 22 [v]
 oth:∀B t vs,B≠b4->B≠b5->Row wr B t vs->Row w B t vs
theorem D1.step{W0 wr:World}{b4 b5:Nat}{w w2:World}(h:D1 W0 wr b4 b5 w)(hg:Gr w w2):D1 W0 wr b4 b5 w2 where
 gr:=h.gr.trans hg
 sz:=Nat.le_trans h.sz hg.size
 r4:=h.r4.imp fun _ q=>q.gr hg
 r5:=h.r5.imp fun _ q=>q.gr hg
 oth:=fun B t vs h4 h5 hr=>(h.oth B t vs h4 h5 hr).gr hg
theorem qZ{w:World}{B t:Nat}{u v:Value}(h:Row w B t [u]):Row (w.setCell ⟨B,0,none⟩ v) B t [v]:=by have:=h.set 0 v;simpa using this
theorem D1.set4{W0 wr:World}{b4 b5:Nat}{w:World}(h:D1 W0 wr b4 b5 w)(hb:W0.heap.size<=b4)(hn:b4≠b5)(v:Value):D1 W0 wr b4 b5 (w.setCell ⟨b4,0,none⟩ v) where
 gr:=Gr.setc hb h.gr
 sz:=by simpa using h.sz
 r4:=⟨v,qZ h.r4.choose_spec⟩
 r5:=h.r5.imp fun _ q=>q.oth (by omega)
 oth:=fun B t vs h4 h5 hr=>(h.oth B t vs h4 h5 hr).oth (by omega)
theorem D1.set5{W0 wr:World}{b4 b5:Nat}{w:World}(h:D1 W0 wr b4 b5 w)(hb:W0.heap.size<=b5)(hn:b4≠b5)(v:Value):D1 W0 wr b4 b5 (w.setCell ⟨b5,0,none⟩ v) where
 gr:=Gr.setc hb h.gr
 sz:=by simpa using h.sz
 r4:=h.r4.imp fun _ q=>q.oth (by omega)
 r5:=⟨v,qZ h.r5.choose_spec⟩
 oth:=fun B t vs h4 h5 hr=>(h.oth B t vs h4 h5 hr).oth (by omega)
theorem FA{w:World}{g h t u:Nat}{xs ys:List Value}(hg:Row w g t xs)(hh:Row w h u ys)(hn:t≠u):g≠h:=by rintro rfl;have:=hg.symm.trans hh;simp at this;exact hn this.2
def dmrF(W0 wr:World)(ao:Option Addr)(n cap b4 b5:Nat)(zN nR nY oz nH nU jw jB:Value)(d:Array Bool)(w:World):Prop:=
 D1 W0 wr b4 b5 w/\(d.getD 0 false=true->zN= .agg #[.int .i64 0,.int .i64 (-1),.int .i64 (-1)])/\
 (d.getD 1 false=true->(∃B,nR= .slice (some ⟨B,0,none⟩) 1 1/\wr.heap.size<=B/\Row w B 200 (an [0, -1, -1])))/\
 (d.getD 2 false=true->nY= .slice ao n cap)/\
 (d.getD 3 false=true->oz= .int .i64 (n:Int))/\
 (d.getD 4 false=true->(∃B,nH= .slice (some ⟨B,0,none⟩) n n/\wr.heap.size<=B/\Row w B 200 (an (dm n n))))/\
 (d.getD 5 false=true->nU= .slice ao n cap)/\
 (d.getD 6 false=true->jw= .int .i64 (n:Int))/\
 (d.getD 7 false=true->(∃B,jB= .slice (some ⟨B,0,none⟩) n n/\wr.heap.size<=B/\Row w B 3 (an (List.replicate n 0))))/\
 (d.getD 8 false=true->(d.getD 4 false=true/\Row w b4 167 [nH]))/\
 (d.getD 9 false=true->(d.getD 7 false=true/\Row w b5 22 [jB]))
def ta(ao:Option Addr)(n cap b4 b5:Nat)(zN nR nY oz nH nU jw jB s1 s2 s3 s6 s7 s8 s9 fQ dR ei cI cJ eG dB dD dv dC du eH eQ eW eO eI ec dP dL dE dJ dK dO dM dN eg eY eT eV eF eN fG fH fJ fL gK gi gd eZ gY g9 ii hO g7 gZ g8 gV gT gS jf iQ iX ja jh jF jE jD iO iT je iP i9 iV ji iS jg iZ jd i8 i7 iM iU iY iW iN i6 jG jA jH jy jz j8 gU ia ic ie gW gX ig iI iD:Value):Act:={tmps:= #[.slice ao n cap,s1,s2,s3,.pointer (some ⟨b4,0,none⟩),.pointer (some ⟨b5,0,none⟩),s6,s7,s8,s9,fQ,dR,ei,cI,cJ,zN,nR,nY,oz,nH,nU,jw,jB,eG,dB,dD,dv,dC,du,eH,eQ,eW,eO,eI,ec,dP,dL,dE,dJ,dK,dO,dM,dN,eg,eY,eT,eV,eF,eN,fG,fH,fJ,fL,gK,gi,gd,eZ,gY,g9,ii,hO,g7,gZ,g8,gV,gT,gS,jf,iQ,iX,ja,jh,jF,jE,jD,iO,iT,je,iP,i9,iV,ji,iS,jg,iZ,jd,i8,i7,iM,iU,iY,iW,iN,i6,jG,jA,jH,jy,jz,j8,gU,ia,ic,ie,gW,gX,ig,iI,iD],defers:= []}
theorem dmr{Q:Exit->Act->World->Prop}{W0 wr:World}{ao:Option Addr}{n cap b4 b5:Nat}{s1 s2 s3 s6 s7 s8 s9 fQ dR ei cI cJ dc dg dk di cK de dQ dI eG dB dD dv dC du eH eQ eW eO eI ec dP dL dE dJ dK dO dM dN eg eY eT eV eF eN fG fH fJ fL gK gi gd eZ gY g9 ii hO g7 gZ g8 gV gT gS jf iQ iX ja jh jF jE jD iO iT je iP i9 iV ji iS jg iZ jd i8 i7 iM iU iY iW iN i6 jG jA jH jy jz j8 gU ia ic ie gW gX ig iI iD:Value}(hD:D1 W0 wr b4 b5 wr)(hn:n<=16)(hb4:W0.heap.size<=b4/\b4<wr.heap.size)(hb5:W0.heap.size<=b5/\b5<wr.heap.size)(bS:b4≠b5)
  (h':∀zN nR nY oz nH nU jw jB wx g h,nH= .slice (some ⟨g,0,none⟩) n n->jB= .slice (some ⟨h,0,none⟩) n n->D1 W0 wr b4 b5 wx->wr.heap.size<=g->wr.heap.size<=h->Row wx g 200 (an (dm n n))->Row wx h 3 (an (List.replicate n 0))->Row wx b4 167 [.slice (some ⟨g,0,none⟩) n n]->Row wx b5 22 [.slice (some ⟨h,0,none⟩) n n]->Q .normal (ta ao n cap b4 b5 zN nR nY oz nH nU jw jB s1 s2 s3 s6 s7 s8 s9 fQ dR ei cI cJ eG dB dD dv dC du eH eQ eW eO eI ec dP dL dE dJ dK dO dM dN eg eY eT eV eF eN fG fH fJ fL gK gi gd eZ gY g9 ii hO g7 gZ g8 gV gT gS jf iQ iX ja jh jF jE jD iO iT je iP i9 iV ji iS jg iZ jd i8 i7 iM iU iY iW iN i6 jG jA jH jy jz j8 gU ia ic ie gW gX ig iI iD) wx):
  (Code.region 1 (fr 1 Tryz.f123) true).wp Tryz.prog Q {tmps:= #[.slice ao n cap,s1,s2,s3,.pointer (some ⟨b4,0,none⟩),.pointer (some ⟨b5,0,none⟩),s6,s7,s8,s9,fQ,dR,ei,cI,cJ,dc,dg,dk,di,cK,de,dQ,dI,eG,dB,dD,dv,dC,du,eH,eQ,eW,eO,eI,ec,dP,dL,dE,dJ,dK,dO,dM,dN,eg,eY,eT,eV,eF,eN,fG,fH,fJ,fL,gK,gi,gd,eZ,gY,g9,ii,hO,g7,gZ,g8,gV,gT,gS,jf,iQ,iX,ja,jh,jF,jE,jD,iO,iT,je,iP,i9,iV,ji,iS,jg,iZ,jd,i8,i7,iM,iU,iY,iW,iN,i6,jG,jA,jH,jy,jz,j8,gU,ia,ic,ie,gW,gX,ig,iI,iD],defers:= []} wr:=by
 have HD:=PLift.up hD;have HN:=PLift.up hn;have HB4:=PLift.up hb4;have HB5:=PLift.up hb5;have HNE:=PLift.up bS;clear hD hn hb4 hb5 bS;simp only[fr,Tryz.f123,gM,Option.bind_some,Option.getD_some,Nat.beq,cond_true,cond_false];refine dW (fun done a w=>∃zN nR nY oz nH nU jw jB,a=ta ao n cap b4 b5 zN nR nY oz nH nU jw jB s1 s2 s3 s6 s7 s8 s9 fQ dR ei cI cJ eG dB dD dv dC du eH eQ eW eO eI ec dP dL dE dJ dK dO dM dN eg eY eT eV eF eN fG fH fJ fL gK gi gd eZ gY g9 ii hO g7 gZ g8 gV gT gS jf iQ iX ja jh jF jE jD iO iT je iP i9 iV ji iS jg iZ jd i8 i7 iM iU iY iW iN i6 jG jA jH jy jz j8 gU ia ic ie gW gX ig iI iD/\dmrF W0 wr ao n cap b4 b5 zN nR nY oz nH nU jw jB done w) (by kernel_rfl) (by kernel_rfl) ?_ ⟨?_,?_,?_,?_,?_,?_,?_,?_,?_,?_,trivial⟩ ?_
 ·exact⟨dc,dg,dk,di,cK,de,dQ,dI,rfl,HD.down.step (gfl _).drew,fun q=>absurd q (by decide),fun q=>absurd q (by decide),fun q=>absurd q (by decide),fun q=>absurd q (by decide),fun q=>absurd q (by decide),fun q=>absurd q (by decide),fun q=>absurd q (by decide),fun q=>absurd q (by decide),fun q=>absurd q (by decide),fun q=>absurd q (by decide)⟩
 rotate_right
 ·rintro done a w aH ⟨zN,nR,nY,oz,nH,nU,jw,jB,rfl,gw,f0,f1,f2,f3,f4,f5,f6,f7,f8,f9⟩;obtain⟨g,rfl,bD,bY⟩:=f4 (aH 4 (by decide));obtain⟨h7,rfl,Cy,hh2⟩:=f7 (aH 7 (by decide));exact h' _ _ _ _ _ _ _ _ w g h7 rfl rfl gw bD Cy bY hh2 (f8 (aH 8 (by decide))).2 (f9 (aH 9 (by decide))).2
 all_goals(rintro done a w iB fD aO ⟨zN,nR,nY,oz,nH,nU,jw,jB,rfl,gw,f0,f1,f2,f3,f4,f5,f6,f7,f8,f9⟩ K hK;have hn:=nd fD;have HK:=PLift.up hK;clear hK)
 ·simp only[ta];go_simp;have gg:=gfl w;refine HK.down _ _ ⟨_,_,_,_,_,_,_,_,rfl,gw.step gg,fun _=>rfl,ku f1,kp f2,kp f3,ku f4,kp f5,kp f6,ku f7,fun q=>(let h:=f8 (aj q (by decide));⟨ak h.1,h.2.gr gg⟩),fun q=>(let h:=f9 (aj q (by decide));⟨ak h.1,h.2.gr gg⟩)⟩
 ·have d0:=aO 0 (by kernel_rfl);obtain rfl:=f0 d0;clear d0;simp only[ta];go_simp;have gg:Gr w (w.alloc (.cells #[.int .i64 0,.int .i64 (-1),.int .i64 (-1)] 200)):=(gfl _).alloc _;refine HK.down _ _ ⟨_,_,_,_,_,_,_,_,rfl,gw.step gg,kp f0,?_,kp f2,kp f3,ku f4,kp f5,kp f6,ku f7,fun q=>(let h:=f8 (aj q (by decide));⟨ak h.1,h.2.gr gg⟩),fun q=>(let h:=f9 (aj q (by decide));⟨ak h.1,h.2.gr gg⟩)⟩;exact fun _=>⟨_,rfl,gw.sz,Row.new w _ _⟩
 ·simp only[ta];go_simp;have gg:=gfl w;refine HK.down _ _ ⟨_,_,_,_,_,_,_,_,rfl,gw.step gg,kp f0,ku f1,fun _=>rfl,kp f3,ku f4,kp f5,kp f6,ku f7,fun q=>(let h:=f8 (aj q (by decide));⟨ak h.1,h.2.gr gg⟩),fun q=>(let h:=f9 (aj q (by decide));⟨ak h.1,h.2.gr gg⟩)⟩
 ·have d2:=aO 2 (by kernel_rfl);obtain rfl:=f2 d2;clear d2;simp only[ta];go_simp;have gg:=gfl w;refine HK.down _ _ ⟨_,_,_,_,_,_,_,_,rfl,gw.step gg,kp f0,ku f1,kp f2,fun _=>rfl,ku f4,kp f5,kp f6,ku f7,fun q=>(let h:=f8 (aj q (by decide));⟨ak h.1,h.2.gr gg⟩),fun q=>(let h:=f9 (aj q (by decide));⟨ak h.1,h.2.gr gg⟩)⟩
 ·have d1:=aO 1 (by kernel_rfl);have d3:=aO 3 (by kernel_rfl);obtain rfl:=f3 d3;obtain⟨B,rfl,hB,hR⟩:=f1 d1;have RB:=PLift.up hR;have GW:=PLift.up gw;have HBB:=PLift.up hB;clear hR hB gw;clear d3;simp only[ta];go_simp;refine(Qz B n w RB.down HN.down).mono ?_;rintro e w2 ⟨g,rfl,fe,hsz2,bY⟩
  (try go_simp)
  have gg:Gr w w2:=bY;refine HK.down _ _ ⟨_,_,_,_,_,_,_,_,rfl,GW.down.step gg,kp f0,fun _=>⟨B,rfl,HBB.down,RB.down.gr gg⟩,kp f2,kp f3,?_,kp f5,kp f6,ku f7,fun q=>absurd (f8 (aj q (by decide))).1 hn,fun q=>(let h:=f9 (aj q (by decide));⟨ak h.1,h.2.gr gg⟩)⟩;exact fun _=>⟨g,rfl,Nat.le_trans GW.down.sz hsz2,fe⟩
 ·simp only[ta];go_simp;have gg:=gfl w;refine HK.down _ _ ⟨_,_,_,_,_,_,_,_,rfl,gw.step gg,kp f0,ku f1,kp f2,kp f3,ku f4,fun _=>rfl,kp f6,ku f7,fun q=>(let h:=f8 (aj q (by decide));⟨ak h.1,h.2.gr gg⟩),fun q=>(let h:=f9 (aj q (by decide));⟨ak h.1,h.2.gr gg⟩)⟩
 ·have d5:=aO 5 (by kernel_rfl);obtain rfl:=f5 d5;clear d5;simp only[ta];go_simp;have gg:=gfl w;refine HK.down _ _ ⟨_,_,_,_,_,_,_,_,rfl,gw.step gg,kp f0,ku f1,kp f2,kp f3,ku f4,kp f5,fun _=>rfl,ku f7,fun q=>(let h:=f8 (aj q (by decide));⟨ak h.1,h.2.gr gg⟩),fun q=>(let h:=f9 (aj q (by decide));⟨ak h.1,h.2.gr gg⟩)⟩
 ·have d6:=aO 6 (by kernel_rfl);obtain rfl:=f6 d6;have jV:=run_make_row' (P:=Tryz.prog) 22 3 (.int .i64 0) 8 Tryz.underlying22 eS rfl .i64 .i64 n (by have:=HN.down;omega) (by have:=HN.down;omega);have hmk2:=jV w;clear jV;clear d6;simp only[ta];go_simp;have gg:Gr w (w.alloc (.cells (madeCells #[.int .i64 0] n) 3)):=(gfl _).alloc _;refine HK.down _ _ ⟨_,_,_,_,_,_,_,_,rfl,gw.step gg,kp f0,ku f1,kp f2,kp f3,ku f4,kp f5,kp f6,?_,fun q=>(let h:=f8 (aj q (by decide));⟨ak h.1,h.2.gr gg⟩),fun q=>absurd (f9 (aj q (by decide))).1 hn⟩;refine fun _=>⟨_,rfl,gw.sz,?_⟩;have:=Row.new w (madeCells #[.int .i64 0] n) 3;rw[rB] at this;simpa [an] using this
 ·have d4:=aO 4 (by kernel_rfl);obtain⟨g,rfl,hg,hR⟩:=f4 d4;obtain⟨v4,q4⟩:=gw.r4;have c4:=q4.cell 0 (by simp);have h4:=q4.has;have fr4:=q4.free 0;simp only[List.getElem_cons_zero] at c4;have Q4:=PLift.up q4;have RB:=PLift.up hR;have HG:=PLift.up hg;have GW:=PLift.up gw;have D4:=PLift.up d4;clear q4 hR hg gw d4;simp only[ta];go_simp;refine HK.down _ _ ⟨_,_,_,_,_,_,_,_,rfl,GW.down.set4 HB4.down.1 HNE.down _,kp f0,fun q=>(let⟨B,e,hB,hR⟩:=f1 (aj q (by decide));⟨B,e,hB,hR.oth (by have:=HB4.down.2;omega)⟩),kp f2,kp f3,fun _=>⟨g,rfl,HG.down,RB.down.oth (by have:=HB4.down.2;have:=HG.down;omega)⟩,kp f5,kp f6,fun q=>(let⟨B,e,hB,hR⟩:=f7 (aj q (by decide));⟨B,e,hB,hR.oth (by have:=HB4.down.2;omega)⟩),?_,fun q=>(let h:=f9 (aj q (by decide));⟨ak h.1,h.2.oth (by have:=HNE.down;omega)⟩)⟩;exact fun _=>⟨ak D4.down,qZ Q4.down⟩
 have d7:=aO 7 (by kernel_rfl);obtain⟨g,rfl,hg,hR⟩:=f7 d7;obtain⟨v5,q5⟩:=gw.r5;have c5:=q5.cell 0 (by simp);have h5:=q5.has;have fr5:=q5.free 0;simp only[List.getElem_cons_zero] at c5;have Q5:=PLift.up q5;have RB:=PLift.up hR;have HG:=PLift.up hg;have GW:=PLift.up gw;have D7:=PLift.up d7;clear q5 hR hg gw d7;simp only[ta];go_simp;refine HK.down _ _ ⟨_,_,_,_,_,_,_,_,rfl,GW.down.set5 HB5.down.1 HNE.down _,kp f0,fun q=>(let⟨B,e,hB,hR⟩:=f1 (aj q (by decide));⟨B,e,hB,hR.oth (by have:=HB5.down.2;omega)⟩),kp f2,kp f3,fun q=>(let⟨B,e,hB,hR⟩:=f4 (aj q (by decide));⟨B,e,hB,hR.oth (by have:=HB5.down.2;omega)⟩),kp f5,kp f6,fun _=>⟨g,rfl,HG.down,RB.down.oth (by have:=HB5.down.2;have:=HG.down;omega)⟩,fun q=>(let h:=f8 (aj q (by decide));⟨ak h.1,h.2.oth (by have:=HNE.down;omega)⟩),?_⟩;exact fun _=>⟨ak D7.down,qZ Q5.down⟩
end
section
open Go.RowKit Go.Shelf
open Classical
attribute [local go_sem] Oper.semAt_some
def Vs(n:Nat)(xs vs:List Int):Prop:=xs.length=3*n/\vs.length=n/\∀i (h:i<n) (h1:3*i<xs.length) (h2:i<vs.length),xs[3*i]=vs[i]
theorem Vs.zero(n:Nat):Vs n (dm n n) (List.replicate n 0):=by refine⟨lS n n,by simp,fun i h h1 h2=>?_⟩;rw[wJ h1,if_neg (by omega)];simp
def set3(xs:List Int)(s:Nat)(a b c:Int):List Int:=((xs.set (3*s) a).set (3*s+1) b).set (3*s+2) c
theorem Vs.set{n:Nat}{xs vs:List Int}(h:Vs n xs vs)(s:Nat)(a b c:Int):Vs n (set3 xs s a b c) (vs.set s a):=by
 refine⟨by simp[set3,h.1],by simp[h.2.1],fun i hi h1 h2=>?_⟩;simp only[set3,List.length_set] at h1 h2;simp only[set3];rw[List.getElem_set_ne (by omega),List.getElem_set_ne (by omega)];by_cases e:s=i
 ·subst e;simp
 rw[List.getElem_set_ne (by omega),List.getElem_set_ne e];exact h.2.2 i hi h1 h2
structure DM(w0:World)(n g h:Nat)(xs lv:List Int)(w:World):Prop where
 gr:Gr w0 w
 r4:Row w w0.heap.size 167 [.slice (some ⟨g,0,none⟩) n n]
 r5:Row w (w0.heap.size+1) 22 [.slice (some ⟨h,0,none⟩) n n]
 r6:Row w (w0.heap.size+2) 3 [.int .i64 0]
 rg:Row w g 200 (an xs)
 rh:Row w h 3 (an lv)
 hg:w0.heap.size+3<=g
 hh:w0.heap.size+3<=h
theorem DM.gh{w0:World}{n g h:Nat}{xs lv:List Int}{w:World}(m:DM w0 n g h xs lv w):g≠h:=FA m.rg m.rh (by decide)
theorem DM.step{w0:World}{n g h:Nat}{xs lv:List Int}{w w2:World}(m:DM w0 n g h xs lv w)(hg:Gr w w2):DM w0 n g h xs lv w2:=
 ⟨m.gr.trans hg,m.r4.gr hg,m.r5.gr hg,m.r6.gr hg,m.rg.gr hg,m.rh.gr hg,m.hg,m.hh⟩
theorem DM.set3{w0:World}{n g h:Nat}{xs lv:List Int}{w:World}(m:DM w0 n g h xs lv w)(s:Nat)(a b c:Int):DM w0 n g h (set3 xs s a b c) lv (((w.setCell ⟨g,s*3,none⟩ (.int .i64 a)).setCell ⟨g,s*3+1,none⟩ (.int .i64 b)).setCell ⟨g,s*3+2,none⟩ (.int .i64 c)):=by have hg:=m.hg;have hh:=m.hh;have ne:=m.gh;refine⟨Gr.setc (by omega) (Gr.setc (by omega) (Gr.setc (by omega) m.gr)),((m.r4.oth (by omega)).oth (by omega)).oth (by omega),((m.r5.oth (by omega)).oth (by omega)).oth (by omega),((m.r6.oth (by omega)).oth (by omega)).oth (by omega),?_,((m.rh.oth (by omega)).oth (by omega)).oth (by omega),hg,hh⟩;unfold Go.Proofs.YtlmhkjdkcoiioaaGreatDoor.set3;rw[Nat.mul_comm 3 s];exact((m.rg.iset (s*3) a).iset (s*3+1) b).iset (s*3+2) c
theorem Np{n:Nat}{d:List Drw}{m s:Nat}{xs:List Int}{vv:Int}(h:Vs n xs (eB n (d.take m)))(hm:m<d.length)(hs:d[m].supply=(s:Int))(hn:s<(eB n (d.take m)).length)(hv:(eB n (d.take m))[s]=vv):(vv<d[m].low->Vs n (set3 xs s d[m].low m (-1)) (eB n (d.take (m+1))))/\(d[m].low<=vv->Vs n xs (eB n (d.take (m+1)))):=by
 rw[Ct hm hs hn,hv];constructor
 ·intro q;rw[if_pos q];exact h.set s _ _ _
 intro q;rw[if_neg (by omega),kG _ _ hn _ hv];exact h
structure DRj(w0:World)(n g h B9:Nat)(au:Option Addr)(un cu:Nat)(us:List Bool)(f:Int)(xs lv:List Int)(W:World):Prop where
 bl:Below w0.heap.size w0 W
 r4:Row W w0.heap.size 167 [.slice (some ⟨g,0,none⟩) n n]
 r5:Row W (w0.heap.size+1) 22 [.slice (some ⟨h,0,none⟩) n n]
 r6:Row W (w0.heap.size+2) 3 [.int .i64 f]
 r9:Row W B9 27 [.slice au un cu]
 rg:Row W g 200 (an xs)
 rh:Row W h 3 (an lv)
 ru:ag 1 RB W au us
section
variable {w0:World} {n g h B9:Nat} {au:Option Addr} {un cu:Nat} {us:List Bool} {f:Int} {xs lv:List Int} {W:World}
theorem DRj.gr{W2:World}(j:DRj w0 n g h B9 au un cu us f xs lv W)(hg:Gr W W2):DRj w0 n g h B9 au un cu us f xs lv W2:=
 ⟨j.bl.trans (hg.below.mono j.bl.size),j.r4.gr hg,j.r5.gr hg,j.r6.gr hg,j.r9.gr hg,j.rg.gr hg,j.rh.gr hg,j.ru.giB hg⟩
theorem DRj.grw(j:DRj w0 n g h B9 au un cu us f xs lv W):Gr w0 W:= .of_below j.bl
theorem Wc{X Y:World}{row:Option Nat}{au:Option Addr}{us:List Bool}(hs:ag 1 RB X au us)(hg:X.grownBy Y row)(hr:∀r,row=some r->∃o:Obj,X.heap[r]?=some o/\o.isCells=false):ag 1 RB Y au us:=fun k hk=>by obtain⟨b,o,e,c⟩:=hs k hk;refine⟨b,o,e,?_⟩;unfold RB at c ⊢;exact cell_kept c hg hr
theorem DRj.own{B:Nat}{X Y:World}{row:Option Nat}(hB:w0.heap.size<=B)(j:DRj w0 n g h B9 au un cu us f xs lv X)(hg:X.grownBy Y row)(hr:∀r,row=some r->B<=r/\∃o:Obj,X.heap[r]?=some o/\o.isCells=false):DRj w0 n g h B9 au un cu us f xs lv Y:=
 ⟨j.bl.grown hg j.bl.size (fun k e=>Nat.le_trans hB (hr k e).1),jR (β:=Unit) _ _ (fun _=>_) () X Y row j.r4 hg (fun r e=>(hr r e).2),jR (β:=Unit) _ _ (fun _=>_) () X Y row j.r5 hg (fun r e=>(hr r e).2),jR (β:=Unit) _ _ (fun _=>_) () X Y row j.r6 hg (fun r e=>(hr r e).2),jR (β:=Unit) _ _ (fun _=>_) () X Y row j.r9 hg (fun r e=>(hr r e).2),jR (β:=Unit) _ _ (fun _=>_) () X Y row j.rg hg (fun r e=>(hr r e).2),jR (β:=Unit) _ _ (fun _=>_) () X Y row j.rh hg (fun r e=>(hr r e).2),Wc j.ru hg (fun r e=>(hr r e).2)⟩
theorem JZ{w:World}{B T:Nat}{xs:List Int}(h:Row w B T (an xs)){o:Nat}{v:Value}(c:w.cell? ⟨B,o,none⟩=some v):∃x,v= .int .i64 x:=by
 by_cases q:o<xs.length
 ·rw[h.iat o q] at c;exact⟨_,(Option.some.inj c).symm⟩
 unfold Row at h;simp only[World.cell?,h] at c;have e:(an xs).toArray[o]?=none:=by simp[an];omega
 simp[an] at c;obtain⟨x,_,e2⟩:=c;exact⟨x,e2.symm⟩
theorem DV{w:World}{B T o:Nat}{ys:List Int}{au:Option Addr}{us:List Bool}{v:Value}(hs:ag 1 RB w au us)(h:Row w B T (an ys)):ag 1 RB (w.setCell ⟨B,o,none⟩ v) au us:=fun k hk=>by
 obtain⟨b,p,e,c⟩:=hs k hk;refine⟨b,p,e,?_⟩;unfold RB at c ⊢;rw[World.cell?_setCell_other]
 ·exact c
 intro q;have:B=b:=(by simpa using q:B=b/\o=p+k).1;subst this;obtain⟨x,e2⟩:=JZ h c;cases e2
theorem pC{w0 w:World}{B o:Nat}{v:Value}(h:Below w0.heap.size w0 w)(hb:w0.heap.size<=B):Below w0.heap.size w0 (w.setCell ⟨B,o,none⟩ v):=
 (Gr.setc hb (Gr.of_below h)).below
theorem DRj.setl(j:DRj w0 n g h B9 au un cu us f xs lv W)(hg:w0.heap.size+3<=g)(hh:w0.heap.size+3<=h)(h9:g<B9/\h<B9)(i:Nat)(a:Int):DRj w0 n g h B9 au un cu us f xs (lv.set i a) (W.setCell ⟨h,i,none⟩ (.int .i64 a)):=by have ne:g≠h:=FA j.rg j.rh (by decide);exact⟨pC j.bl (by omega),j.r4.oth (by omega),j.r5.oth (by omega),j.r6.oth (by omega),j.r9.oth (by omega),j.rg.oth (by omega),j.rh.iset i a,DV j.ru j.rh⟩
theorem DRj.set3(j:DRj w0 n g h B9 au un cu us f xs lv W)(hg:w0.heap.size+3<=g)(hh:w0.heap.size+3<=h)(h9:g<B9/\h<B9)(s:Nat)(a b c:Int):DRj w0 n g h B9 au un cu us f (set3 xs s a b c) lv (((W.setCell ⟨g,s*3,none⟩ (.int .i64 a)).setCell ⟨g,s*3+1,none⟩ (.int .i64 b)).setCell ⟨g,s*3+2,none⟩ (.int .i64 c)):=by have ne:g≠h:=FA j.rg j.rh (by decide);have g1:=j.rg.iset (s*3) a;have g2:=g1.iset (s*3+1) b;refine⟨pC (pC (pC j.bl (by omega)) (by omega)) (by omega),((j.r4.oth (by omega)).oth (by omega)).oth (by omega),((j.r5.oth (by omega)).oth (by omega)).oth (by omega),((j.r6.oth (by omega)).oth (by omega)).oth (by omega),((j.r9.oth (by omega)).oth (by omega)).oth (by omega),?_,((j.rh.oth (by omega)).oth (by omega)).oth (by omega),DV (DV (DV j.ru j.rg) g1) g2⟩;unfold Go.Proofs.YtlmhkjdkcoiioaaGreatDoor.set3;rw[Nat.mul_comm 3 s];exact g2.iset (s*3+2) c
theorem Gj{w:World}{B T o:Nat}{u:Value}{au:Option Addr}{us:List Bool}{v:Value}(hs:ag 1 RB w au us)(h:Row w B T [u])(hu:∀b,u≠ .bool b):ag 1 RB (w.setCell ⟨B,o,none⟩ v) au us:=fun k hk=>by
 obtain⟨b,p,e,c⟩:=hs k hk;refine⟨b,p,e,?_⟩;unfold RB at c ⊢;rw[World.cell?_setCell_other]
 ·exact c
 intro q;have:B=b:=(by simpa using q:B=b/\o=p+k).1;subst this;unfold Row at h;simp only[World.cell?,h] at c;cases hpk:p+k*1 with
 |zero=>rw[hpk] at c;simp at c;exact hu _ c
 |succ x=>rw[hpk] at c;simp at c
theorem DRj.st4(j:DRj w0 n g h B9 au un cu us f xs lv W)(hg:w0.heap.size+3<=g)(hh:w0.heap.size+3<=h)(h9:g<B9/\h<B9):DRj w0 n g h B9 au un cu us f xs lv (W.setCell ⟨w0.heap.size,0,none⟩ (.slice (some ⟨g,0,none⟩) n n)):=
 ⟨pC j.bl (by omega),qZ j.r4,j.r5.oth (by omega),j.r6.oth (by omega),j.r9.oth (by omega),j.rg.oth (by omega),j.rh.oth (by omega),Gj j.ru j.r4 (fun _ q=>by cases q)⟩
theorem DRj.st5(j:DRj w0 n g h B9 au un cu us f xs lv W)(hg:w0.heap.size+3<=g)(hh:w0.heap.size+3<=h)(h9:g<B9/\h<B9):DRj w0 n g h B9 au un cu us f xs lv (W.setCell ⟨w0.heap.size+1,0,none⟩ (.slice (some ⟨h,0,none⟩) n n)):=
 ⟨pC j.bl (by omega),j.r4.oth (by omega),qZ j.r5,j.r6.oth (by omega),j.r9.oth (by omega),j.rg.oth (by omega),j.rh.oth (by omega),Gj j.ru j.r5 (fun _ q=>by cases q)⟩
theorem DRj.st6(j:DRj w0 n g h B9 au un cu us f xs lv W)(hg:w0.heap.size+3<=g)(hh:w0.heap.size+3<=h)(h9:g<B9/\h<B9)(f2:Int):DRj w0 n g h B9 au un cu us f2 xs lv (W.setCell ⟨w0.heap.size+2,0,none⟩ (.int .i64 f2)):=
 ⟨pC j.bl (by omega),j.r4.oth (by omega),j.r5.oth (by omega),qZ j.r6,j.r9.oth (by omega),j.rg.oth (by omega),j.rh.oth (by omega),Gj j.ru j.r6 (fun _ q=>by cases q)⟩
theorem kZ{w:World}{b o D:Nat}{v:Value}(h:b≠D):(w.setCell ⟨b,o,none⟩ v).heap[D]?=w.heap[D]?:=by simp[World.setCell,Array.getElem?_modify,h]
end
structure Two(g h:Nat)(W W':World):Prop where
 ko:KeepsOthers W W'
 blk:∀k,k<W.heap.size->k≠g->k≠h->W'.heap[k]?=W.heap[k]?
theorem Two.refl(g h:Nat)(W:World):Two g h W W:=⟨KeepsOthers.refl W,fun _ _ _ _=>rfl⟩
theorem Two.gr{g h:Nat}{W A B:World}(t:Two g h W A)(hg:Gr A B):Two g h W B:=
 ⟨t.ko.trans ⟨hg.size,fun k o hk _=>(hg.below.block k (Array.getElem?_eq_some_iff.1 hk).1).trans hk⟩,fun k hk h1 h2=>(hg.below.block k (by have:=t.ko.size;omega)).trans (t.blk k hk h1 h2)⟩
theorem Two.set{g h:Nat}{W A:World}(t:Two g h W A){b o:Nat}{v:Value}(hb:b=g∨b=h):Two g h W (A.setCell ⟨b,o,none⟩ v):=
 ⟨t.ko.trans (KeepsOthers.setCell _ _ _),fun k hk h1 h2=>by
  rw[<-t.blk k hk h1 h2];have:b≠k:=by rcases hb with rfl|rfl<;>omega
  simp[World.setCell,Array.getElem?_modify,this]⟩
theorem Two.keep2{g h b c:Nat}{W W':World}(t:Two g h W W')(hb:b<W.heap.size/\b≠g/\b≠h)(hc:c<W.heap.size/\c≠g/\c≠h):km b c W W':=⟨t.blk b hb.1 hb.2.1 hb.2.2,t.blk c hc.1 hc.2.1 hc.2.2⟩
theorem Qk{w W:World}{ao:Option Addr}{l:List Sup}{b o:Nat}{al:Nat->Option Addr}{cl:Nat->Nat}(h:ag 5 bG w ao l)(hg:Gr w W)(e:ao=some ⟨b,o,none⟩)(hc:yG W b o l al cl)(k:Nat)(hk:k<l.length):ag 1 RI w (al k) l[k].levels:=by
 obtain⟨b',o',e',_,⟨a',c',q,_,_,sL⟩,_⟩:=h k hk;rw[e] at e';have:b=b'/\o=o':=by simpa using e'
 obtain⟨rfl,rfl⟩:=this;have q2:=aB hg q;rw[(hc k hk).2.1] at q2;have:al k=a':=by have:=Option.some.inj q2;simp at this;exact this.1
 rw[this];exact sL
section
variable {P:Program} {lp m:Nat}
theorem qL{id:Nat}{Q:Exit->Act->World->Prop}{a:Act}{w:World}{l:List Oper}(n:Nat)(hm:P.follows .mixedOrders=true)(hB:Region.lexTailB .any l.toArray n=true)(hd:xP l=true)
  (h:wpQuiet P l.toArray (fun w'=>∃x:tV,w'=xt w x.o x.d) (fun a'=>∀w',(∃x:tV,w'=xt w x.o x.d)->wpListIn (Fence.wide.inRound lp) m P l.toArray Q (l.drop n) a' w') (l.take n) a):(Code.region id l.toArray true).wpIn (Fence.wide.inRound lp) m P Q a w:=
 qI n hm hB hd (let⟨O,d,h⟩:=Eh w;⟨⟨O,d⟩,h⟩) h
end
theorem Pe{n:Nat}{xs vs:List Int}(h:Vs n xs vs){i:Nat}(hi:i<n){y:Int}(hx:3*i<xs.length)(e:xs[3*i]=y):∃q:i<vs.length,vs[i]=y/\vs.getD i 0=y:=by
 have q:i<vs.length:=by have:=h.2.1;omega
 refine⟨q,by rw[<-e];exact(h.2.2 i hi hx q).symm,?_⟩;rw[List.getD_eq_getElem?_getD,List.getElem?_eq_getElem q,Option.getD_some,<-e];exact(h.2.2 i hi hx q).symm
section
variable {l:List Sup} {d:List Drw} {i kk:Nat} {s:List Int×List Int} {xs lv:List Int} {xv:Int}
theorem ET(hok:gz l)(hi:i<l.length)(hv:Vs l.length xs s.2)(hx:3*i<xs.length)(e:xs[3*i]=xv)(hk:lvN l[i].levels xv=kk):lvI l[i].levels (s.2.getD i 0)=if kk<l[i].levels.length then(kk:Int) else -1:=by obtain⟨_,_,q⟩:=Pe hv hi hx e;rw[q,Hx (zx hok hi),<-hk];rfl
theorem UD(hok:gz l)(hi:i<l.length)(hu:fF l d i)(hv:Vs l.length xs s.2)(hx:3*i<xs.length)(e:xs[3*i]=xv)(hk:lvN l[i].levels xv=kk)(hn:¬kk<l[i].levels.length):iq l d i s=none:=by refine zX hi hu ?_;rw[ET hok hi hv hx e hk,if_neg hn];decide
theorem UA(hok:gz l)(hi:i<l.length)(hu:fF l d i)(h1:s.1=lv)(hv:Vs l.length xs s.2)(hx:3*i<xs.length)(e:xs[3*i]=xv)(hk:lvN l[i].levels xv=kk)(hn:kk<l[i].levels.length)(hp:l[i].parent<0):∃s2,iq l d i s=some s2/\s2.1=lv.set i (kk:Int)/\Vs l.length xs s2.2:=by refine⟨_,rI hi hu (k:=(kk:Int)) (by rw[ET hok hi hv hx e hk,if_pos hn]) (by omega) hp,by rw[h1],hv⟩
theorem VD(hok:gz l)(hi:i<l.length)(hu:fF l d i)(h1:s.1=lv)(hv:Vs l.length xs s.2)(hx:3*i<xs.length)(e:xs[3*i]=xv)(hk:lvN l[i].levels xv=kk)(hn:kk<l[i].levels.length){p:Nat}(hp:l[i].parent=(p:Int))(dw:p<l.length){y lv0:Int}(ly:3*p<xs.length)(e2:xs[3*p]=y)(el:l[i].levels[kk]=lv0)(hy:y<lv0+l[i].dropout)(a b:Int):∃s2,iq l d i s=some s2/\s2.1=lv.set i (kk:Int)/\Vs l.length (set3 xs p (lv0+l[i].dropout) a b) s2.2:=by
 obtain⟨q,q1,_⟩:=Pe hv dw ly e2;refine⟨_,uy (k:=(kk:Int)) (v:=lv0+l[i].dropout) hi hu (by rw[ET hok hi hv hx e hk,if_pos hn]) (by omega) hp q ?_,by rw[h1],?_⟩
 ·rw[Int.toNat_natCast,List.getD_eq_getElem?_getD,List.getElem?_eq_getElem hn,Option.getD_some,el]
 simp only[q1];rw[if_pos hy];exact hv.set p _ _ _
theorem We(hok:gz l)(hi:i<l.length)(hu:fF l d i)(h1:s.1=lv)(hv:Vs l.length xs s.2)(hx:3*i<xs.length)(e:xs[3*i]=xv)(hk:lvN l[i].levels xv=kk)(hn:kk<l[i].levels.length){p:Nat}(hp:l[i].parent=(p:Int))(dw:p<l.length){y lv0:Int}(ly:3*p<xs.length)(e2:xs[3*p]=y)(el:l[i].levels[kk]=lv0)(hy:¬y<lv0+l[i].dropout):∃s2,iq l d i s=some s2/\s2.1=lv.set i (kk:Int)/\Vs l.length xs s2.2:=by
 obtain⟨q,q1,_⟩:=Pe hv dw ly e2;refine⟨_,uy (k:=(kk:Int)) (v:=lv0+l[i].dropout) hi hu (by rw[ET hok hi hv hx e hk,if_pos hn]) (by omega) hp q ?_,by rw[h1],?_⟩
 ·rw[Int.toNat_natCast,List.getD_eq_getElem?_getD,List.getElem?_eq_getElem hn,Option.getD_some,el]
 simp only[q1];rw[if_neg hy,kG _ _ q _ q1];exact hv
end
end
section
open Go.RowKit
open Classical
def dmfF(w0 wr:World)(n g h B9:Nat)(au:Option Addr)(un cu:Nat)(us:List Bool)(z2:Int)(xs lv:List Int)(Ba AI Aj:Value)(d:Array Bool)(w:World):Prop:=
 (∃f,DRj w0 n g h B9 au un cu us f xs lv w/\(d.getD 5 false=true->f=z2)/\KeepsOthers wr w/\(∀j,j<wr.heap.size->j≠w0.heap.size->j≠w0.heap.size+1->j≠w0.heap.size+2->w.heap[j]?=wr.heap[j]?))/\(d.getD 0 false=true->Ba= .slice (some ⟨g,0,none⟩) n n)/\
 (d.getD 1 false=true->AI= .slice (some ⟨h,0,none⟩) n n)/\
 (d.getD 2 false=true->Aj= .int .i64 z2)/\
 (d.getD 3 false=true->True)/\
 (d.getD 4 false=true->True)/\
 (d.getD 5 false=true->True)
def zc(w0:World)(z2:Int)(Ba AI Aj s0 s1 s2 s3 s7 s8 s9 dR ei cI cJ dc dg dk di cK de dQ dI eG dB dD dv dC du eH eQ eW eO eI ec dP dL dE dJ dK dO dM dN eg eY eT eV eF eN fG fH fJ fL gK gi gd eZ gY g9 ii hO g7 gZ g8 gV gT gS jf iQ iX ja jh iO iT je iP i9 iV ji iS jg iZ jd i8 i7 iM iU iY iW iN i6 jG jA jH jy jz j8 gU ia ic ie gW gX ig iI iD:Value):Act:={tmps:= #[s0,s1,s2,s3,.pointer (some ⟨w0.heap.size,0,none⟩),.pointer (some ⟨w0.heap.size+1,0,none⟩),.pointer (some ⟨w0.heap.size+1+1,0,none⟩),s7,s8,s9,.int .i64 z2,dR,ei,cI,cJ,dc,dg,dk,di,cK,de,dQ,dI,eG,dB,dD,dv,dC,du,eH,eQ,eW,eO,eI,ec,dP,dL,dE,dJ,dK,dO,dM,dN,eg,eY,eT,eV,eF,eN,fG,fH,fJ,fL,gK,gi,gd,eZ,gY,g9,ii,hO,g7,gZ,g8,gV,gT,gS,jf,iQ,iX,ja,jh,Ba,AI,Aj,iO,iT,je,iP,i9,iV,ji,iS,jg,iZ,jd,i8,i7,iM,iU,iY,iW,iN,i6,jG,jA,jH,jy,jz,j8,gU,ia,ic,ie,gW,gX,ig,iI,iD],defers:= []}
theorem dmf{lp m:Nat}{Q:Exit->Act->World->Prop}{w0 wr:World}{n g h B9:Nat}{au:Option Addr}{un cu:Nat}{us:List Bool}{z2:Int}{xs lv:List Int}{s0 s1 s2 s3 s7 s8 s9 dR ei cI cJ dc dg dk di cK de dQ dI eG dB dD dv dC du eH eQ eW eO eI ec dP dL dE dJ dK dO dM dN eg eY eT eV eF eN fG fH fJ fL gK gi gd eZ gY g9 ii hO g7 gZ g8 gV gT gS jf iQ iX ja jh jF jE jD iO iT je iP i9 iV ji iS jg iZ jd i8 i7 iM iU iY iW iN i6 jG jA jH jy jz j8 gU ia ic ie gW gX ig iI iD:Value}(hj:DRj w0 n g h B9 au un cu us 0 xs lv wr)(hg:w0.heap.size+3<=g/\w0.heap.size+3<=h/\g<B9/\h<B9)
  (h':∀Ba AI Aj wx,DRj w0 n g h B9 au un cu us z2 xs lv wx->KeepsOthers wr wx->(∀j,j<wr.heap.size->j≠w0.heap.size->j≠w0.heap.size+1->j≠w0.heap.size+2->wx.heap[j]?=wr.heap[j]?)->Q .normal (zc w0 z2 Ba AI Aj s0 s1 s2 s3 s7 s8 s9 dR ei cI cJ dc dg dk di cK de dQ dI eG dB dD dv dC du eH eQ eW eO eI ec dP dL dE dJ dK dO dM dN eg eY eT eV eF eN fG fH fJ fL gK gi gd eZ gY g9 ii hO g7 gZ g8 gV gT gS jf iQ iX ja jh iO iT je iP i9 iV ji iS jg iZ jd i8 i7 iM iU iY iW iN i6 jG jA jH jy jz j8 gU ia ic ie gW gX ig iI iD) wx):
  (Code.region 15 (fr 15 Tryz.f123) true).wpIn (Fence.wide.inRound lp) m Tryz.prog Q {tmps:= #[s0,s1,s2,s3,.pointer (some ⟨w0.heap.size,0,none⟩),.pointer (some ⟨w0.heap.size+1,0,none⟩),.pointer (some ⟨w0.heap.size+1+1,0,none⟩),s7,s8,s9,.int .i64 z2,dR,ei,cI,cJ,dc,dg,dk,di,cK,de,dQ,dI,eG,dB,dD,dv,dC,du,eH,eQ,eW,eO,eI,ec,dP,dL,dE,dJ,dK,dO,dM,dN,eg,eY,eT,eV,eF,eN,fG,fH,fJ,fL,gK,gi,gd,eZ,gY,g9,ii,hO,g7,gZ,g8,gV,gT,gS,jf,iQ,iX,ja,jh,jF,jE,jD,iO,iT,je,iP,i9,iV,ji,iS,jg,iZ,jd,i8,i7,iM,iU,iY,iW,iN,i6,jG,jA,jH,jy,jz,j8,gU,ia,ic,ie,gW,gX,ig,iI,iD],defers:= []} wr:=by
 have HJ:=PLift.up hj;have HG:=PLift.up hg;clear hj hg;simp only[fr,Tryz.f123,gM,Option.bind_some,Option.getD_some,Nat.beq,cond_true,cond_false];refine Cf (fun done a w=>∃Ba AI Aj,a=zc w0 z2 Ba AI Aj s0 s1 s2 s3 s7 s8 s9 dR ei cI cJ dc dg dk di cK de dQ dI eG dB dD dv dC du eH eQ eW eO eI ec dP dL dE dJ dK dO dM dN eg eY eT eV eF eN fG fH fJ fL gK gi gd eZ gY g9 ii hO g7 gZ g8 gV gT gS jf iQ iX ja jh iO iT je iP i9 iV ji iS jg iZ jd i8 i7 iM iU iY iW iN i6 jG jA jH jy jz j8 gU ia ic ie gW gX ig iI iD/\dmfF w0 wr n g h B9 au un cu us z2 xs lv Ba AI Aj done w) (by kernel_rfl) (by kernel_rfl) (by kernel_rfl) ?_ ⟨?_,?_,?_,?_,?_,?_,trivial⟩ ?_
 ·exact⟨jF,jE,jD,rfl,⟨0,HJ.down.gr (gfl _).drew,fun q=>absurd q (by decide),KeepsOthers.drew _,fun _ _ _ _ _=>rfl⟩,fun q=>absurd q (by decide),fun q=>absurd q (by decide),fun q=>absurd q (by decide),fun q=>absurd q (by decide),fun q=>absurd q (by decide),fun q=>absurd q (by decide)⟩
 rotate_right
 ·rintro done a w aH ⟨Ba,AI,Aj,rfl,gw,f0,f1,f2,f3,f4,f5⟩;obtain⟨f,J,hf,ko,blk⟩:=gw;obtain rfl:=hf (aH 5 (by decide));exact h' _ _ _ w J ko blk
 all_goals(rintro done a w iB fD aO ⟨Ba,AI,Aj,rfl,gw,f0,f1,f2,f3,f4,f5⟩ K hK;have hn:=nd fD;have HK:=PLift.up hK;clear hK)
 ·obtain⟨f,J,hf,ko,blk⟩:=gw;have c4:=J.r4.cell 0 (by simp);have h4:=J.r4.has;have f4:=J.r4.free 0;have c5:=J.r5.cell 0 (by simp);have h5:=J.r5.has;have f5:=J.r5.free 0;have c6:=J.r6.cell 0 (by simp);have h6:=J.r6.has;have f6:=J.r6.free 0;simp only[List.getElem_cons_zero] at c4 c5 c6;have JJ:=PLift.up J;have HF:=PLift.up hf;have KO:=PLift.up ko;have BL:=PLift.up blk;clear J hf ko blk;simp only[zc];go_simp;refine HK.down _ _ ⟨_,_,_,rfl,⟨f,JJ.down,fun q=>HF.down (by rw[getD_set_ne false (by decide)] at q;exact q),KO.down,BL.down⟩,fun _=>rfl,kp f1,kp f2,fun _=>trivial,fun _=>trivial,fun _=>trivial⟩
 ·obtain⟨f,J,hf,ko,blk⟩:=gw;have c4:=J.r4.cell 0 (by simp);have h4:=J.r4.has;have f4:=J.r4.free 0;have c5:=J.r5.cell 0 (by simp);have h5:=J.r5.has;have f5:=J.r5.free 0;have c6:=J.r6.cell 0 (by simp);have h6:=J.r6.has;have f6:=J.r6.free 0;simp only[List.getElem_cons_zero] at c4 c5 c6;have JJ:=PLift.up J;have HF:=PLift.up hf;have KO:=PLift.up ko;have BL:=PLift.up blk;clear J hf ko blk;simp only[zc];go_simp;refine HK.down _ _ ⟨_,_,_,rfl,⟨f,JJ.down,fun q=>HF.down (by rw[getD_set_ne false (by decide)] at q;exact q),KO.down,BL.down⟩,kp f0,fun _=>rfl,kp f2,fun _=>trivial,fun _=>trivial,fun _=>trivial⟩
 ·simp only[zc];go_simp;refine HK.down _ _ ⟨_,_,_,rfl,(let⟨f,J,hf,ko,blk⟩:=gw;⟨f,J,fun q=>hf (by rw[getD_set_ne false (by decide)] at q;exact q),ko,blk⟩),kp f0,kp f1,fun _=>rfl,fun _=>trivial,fun _=>trivial,fun _=>trivial⟩
 ·have d0:=aO 0 (by kernel_rfl);obtain rfl:=f0 d0;obtain⟨f,J,hf,ko,blk⟩:=gw;have c4:=J.r4.cell 0 (by simp);have h4:=J.r4.has;have f4:=J.r4.free 0;have c5:=J.r5.cell 0 (by simp);have h5:=J.r5.has;have f5:=J.r5.free 0;have c6:=J.r6.cell 0 (by simp);have h6:=J.r6.has;have f6:=J.r6.free 0;simp only[List.getElem_cons_zero] at c4 c5 c6;have JJ:=PLift.up J;have HF:=PLift.up hf;have KO:=PLift.up ko;have BL:=PLift.up blk;clear J hf ko blk;clear d0;simp only[zc];go_simp;refine HK.down _ _ ⟨_,_,_,rfl,⟨f,JJ.down.st4 HG.down.1 HG.down.2.1 HG.down.2.2,fun q=>HF.down (by rw[getD_set_ne false (by decide)] at q;exact q),(KO.down.trans (KeepsOthers.setCell _ _ _)),(fun j hj h1 h2 h3=>(kZ (by omega)).trans (BL.down j hj h1 h2 h3))⟩,kp f0,kp f1,kp f2,?_,fun _=>trivial,fun _=>trivial⟩;exact fun _=>trivial
 ·have d1:=aO 1 (by kernel_rfl);obtain rfl:=f1 d1;obtain⟨f,J,hf,ko,blk⟩:=gw;have c4:=J.r4.cell 0 (by simp);have h4:=J.r4.has;have f4:=J.r4.free 0;have c5:=J.r5.cell 0 (by simp);have h5:=J.r5.has;have f5:=J.r5.free 0;have c6:=J.r6.cell 0 (by simp);have h6:=J.r6.has;have f6:=J.r6.free 0;simp only[List.getElem_cons_zero] at c4 c5 c6;have JJ:=PLift.up J;have HF:=PLift.up hf;have KO:=PLift.up ko;have BL:=PLift.up blk;clear J hf ko blk;clear d1;simp only[zc];go_simp;refine HK.down _ _ ⟨_,_,_,rfl,⟨f,JJ.down.st5 HG.down.1 HG.down.2.1 HG.down.2.2,fun q=>HF.down (by rw[getD_set_ne false (by decide)] at q;exact q),(KO.down.trans (KeepsOthers.setCell _ _ _)),(fun j hj h1 h2 h3=>(kZ (by omega)).trans (BL.down j hj h1 h2 h3))⟩,kp f0,kp f1,kp f2,fun _=>trivial,?_,fun _=>trivial⟩;exact fun _=>trivial
 have d2:=aO 2 (by kernel_rfl);obtain rfl:=f2 d2;obtain⟨f,J,hf,ko,blk⟩:=gw;have c4:=J.r4.cell 0 (by simp);have h4:=J.r4.has;have f4:=J.r4.free 0;have c5:=J.r5.cell 0 (by simp);have h5:=J.r5.has;have f5:=J.r5.free 0;have c6:=J.r6.cell 0 (by simp);have h6:=J.r6.has;have f6:=J.r6.free 0;simp only[List.getElem_cons_zero] at c4 c5 c6;have JJ:=PLift.up J;have HF:=PLift.up hf;have KO:=PLift.up ko;have BL:=PLift.up blk;clear J hf ko blk;clear d2;simp only[zc];go_simp;refine HK.down _ _ ⟨_,_,_,rfl,⟨z2,JJ.down.st6 HG.down.1 HG.down.2.1 HG.down.2.2 _,fun _=>rfl,(KO.down.trans (KeepsOthers.setCell _ _ _)),(fun j hj h1 h2 h3=>(kZ (by omega)).trans (BL.down j hj h1 h2 h3))⟩,kp f0,kp f1,kp f2,fun _=>trivial,fun _=>trivial,?_⟩;exact fun _=>trivial
def dmeF(w0 wr:World)(n g h B9:Nat)(au:Option Addr)(un cu:Nat)(us:List Bool)(z2:Int)(xs lv:List Int)(df:List Deferred)(ib gD:Value)(d:Array Bool)(w:World):Prop:=
 (∃f,DRj w0 n g h B9 au un cu us f xs lv w/\(d.getD 4 false=true->f=(-1))/\KeepsOthers wr w/\(∀j,j<wr.heap.size->j≠w0.heap.size->j≠w0.heap.size+1->j≠w0.heap.size+2->w.heap[j]?=wr.heap[j]?))/\(d.getD 0 false=true->ib= .slice (some ⟨g,0,none⟩) n n)/\
 (d.getD 1 false=true->gD= .slice (some ⟨h,0,none⟩) n n)/\
 (d.getD 2 false=true->True)/\
 (d.getD 3 false=true->True)/\
 (d.getD 4 false=true->True)
def Bi(w0:World)(df:List Deferred)(ib gD s0 s1 s2 s3 s7 s8 s9 fQ dR ei cI cJ dc dg dk di cK de dQ dI eG dB dD dv dC du eH eQ eW eO eI ec dP dL dE dJ dK dO dM dN eg eY eT eV eF eN fG fH fJ fL gK gi gd eZ gY g9 ii hO g7 gZ g8 gV gT gS jf iQ iX ja jh jF jE jD iO iT je iP i9 iV ji iS jg iZ jd i8 i7 iM iU iY iW iN i6 jG jA jH jy jz j8 gU ia ic ie gW gX ig:Value):Act:={tmps:= #[s0,s1,s2,s3,.pointer (some ⟨w0.heap.size,0,none⟩),.pointer (some ⟨w0.heap.size+1,0,none⟩),.pointer (some ⟨w0.heap.size+1+1,0,none⟩),s7,s8,s9,fQ,dR,ei,cI,cJ,dc,dg,dk,di,cK,de,dQ,dI,eG,dB,dD,dv,dC,du,eH,eQ,eW,eO,eI,ec,dP,dL,dE,dJ,dK,dO,dM,dN,eg,eY,eT,eV,eF,eN,fG,fH,fJ,fL,gK,gi,gd,eZ,gY,g9,ii,hO,g7,gZ,g8,gV,gT,gS,jf,iQ,iX,ja,jh,jF,jE,jD,iO,iT,je,iP,i9,iV,ji,iS,jg,iZ,jd,i8,i7,iM,iU,iY,iW,iN,i6,jG,jA,jH,jy,jz,j8,gU,ia,ic,ie,gW,gX,ig,ib,gD],defers:=df}
theorem dme{Q:Exit->Act->World->Prop}{w0 wr:World}{n g h B9:Nat}{au:Option Addr}{un cu:Nat}{us:List Bool}{z2:Int}{xs lv:List Int}{df:List Deferred}{s0 s1 s2 s3 s7 s8 s9 fQ dR ei cI cJ dc dg dk di cK de dQ dI eG dB dD dv dC du eH eQ eW eO eI ec dP dL dE dJ dK dO dM dN eg eY eT eV eF eN fG fH fJ fL gK gi gd eZ gY g9 ii hO g7 gZ g8 gV gT gS jf iQ iX ja jh jF jE jD iO iT je iP i9 iV ji iS jg iZ jd i8 i7 iM iU iY iW iN i6 jG jA jH jy jz j8 gU ia ic ie gW gX ig iI iD:Value}(hj:DRj w0 n g h B9 au un cu us 0 xs lv wr)(hg:w0.heap.size+3<=g/\w0.heap.size+3<=h/\g<B9/\h<B9)
  (h':∀ib gD wx,DRj w0 n g h B9 au un cu us (-1) xs lv wx->KeepsOthers wr wx->(∀j,j<wr.heap.size->j≠w0.heap.size->j≠w0.heap.size+1->j≠w0.heap.size+2->wx.heap[j]?=wr.heap[j]?)->Q .normal (Bi w0 df ib gD s0 s1 s2 s3 s7 s8 s9 fQ dR ei cI cJ dc dg dk di cK de dQ dI eG dB dD dv dC du eH eQ eW eO eI ec dP dL dE dJ dK dO dM dN eg eY eT eV eF eN fG fH fJ fL gK gi gd eZ gY g9 ii hO g7 gZ g8 gV gT gS jf iQ iX ja jh jF jE jD iO iT je iP i9 iV ji iS jg iZ jd i8 i7 iM iU iY iW iN i6 jG jA jH jy jz j8 gU ia ic ie gW gX ig) wx):
  (Code.region 20 (fr 20 Tryz.f123) true).wp Tryz.prog Q {tmps:= #[s0,s1,s2,s3,.pointer (some ⟨w0.heap.size,0,none⟩),.pointer (some ⟨w0.heap.size+1,0,none⟩),.pointer (some ⟨w0.heap.size+1+1,0,none⟩),s7,s8,s9,fQ,dR,ei,cI,cJ,dc,dg,dk,di,cK,de,dQ,dI,eG,dB,dD,dv,dC,du,eH,eQ,eW,eO,eI,ec,dP,dL,dE,dJ,dK,dO,dM,dN,eg,eY,eT,eV,eF,eN,fG,fH,fJ,fL,gK,gi,gd,eZ,gY,g9,ii,hO,g7,gZ,g8,gV,gT,gS,jf,iQ,iX,ja,jh,jF,jE,jD,iO,iT,je,iP,i9,iV,ji,iS,jg,iZ,jd,i8,i7,iM,iU,iY,iW,iN,i6,jG,jA,jH,jy,jz,j8,gU,ia,ic,ie,gW,gX,ig,iI,iD],defers:=df} wr:=by
 have HJ:=PLift.up hj;have HG:=PLift.up hg;clear hj hg;simp only[fr,Tryz.f123,gM,Option.bind_some,Option.getD_some,Nat.beq,cond_true,cond_false];refine dW (fun done a w=>∃ib gD,a=Bi w0 df ib gD s0 s1 s2 s3 s7 s8 s9 fQ dR ei cI cJ dc dg dk di cK de dQ dI eG dB dD dv dC du eH eQ eW eO eI ec dP dL dE dJ dK dO dM dN eg eY eT eV eF eN fG fH fJ fL gK gi gd eZ gY g9 ii hO g7 gZ g8 gV gT gS jf iQ iX ja jh jF jE jD iO iT je iP i9 iV ji iS jg iZ jd i8 i7 iM iU iY iW iN i6 jG jA jH jy jz j8 gU ia ic ie gW gX ig/\dmeF w0 wr n g h B9 au un cu us z2 xs lv df ib gD done w) (by kernel_rfl) (by kernel_rfl) ?_ ⟨?_,?_,?_,?_,?_,trivial⟩ ?_
 ·exact⟨iI,iD,rfl,⟨0,HJ.down.gr (gfl _).drew,fun q=>absurd q (by decide),KeepsOthers.drew _,fun _ _ _ _ _=>rfl⟩,fun q=>absurd q (by decide),fun q=>absurd q (by decide),fun q=>absurd q (by decide),fun q=>absurd q (by decide),fun q=>absurd q (by decide)⟩
 rotate_right
 ·rintro done a w aH ⟨ib,gD,rfl,gw,f0,f1,f2,f3,f4⟩;obtain⟨f,J,hf,ko,blk⟩:=gw;obtain rfl:=hf (aH 4 (by decide));exact h' _ _ w J ko blk
 all_goals(rintro done a w iB fD aO ⟨ib,gD,rfl,gw,f0,f1,f2,f3,f4⟩ K hK;have hn:=nd fD;have HK:=PLift.up hK;clear hK)
 ·obtain⟨f,J,hf,ko,blk⟩:=gw;have c4:=J.r4.cell 0 (by simp);have h4:=J.r4.has;have f4:=J.r4.free 0;have c5:=J.r5.cell 0 (by simp);have h5:=J.r5.has;have f5:=J.r5.free 0;have c6:=J.r6.cell 0 (by simp);have h6:=J.r6.has;have f6:=J.r6.free 0;simp only[List.getElem_cons_zero] at c4 c5 c6;have JJ:=PLift.up J;have HF:=PLift.up hf;have KO:=PLift.up ko;have BL:=PLift.up blk;clear J hf ko blk;simp only[Bi];go_simp;refine HK.down _ _ ⟨_,_,rfl,⟨f,JJ.down,fun q=>HF.down (by rw[getD_set_ne false (by decide)] at q;exact q),KO.down,BL.down⟩,fun _=>rfl,kp f1,fun _=>trivial,fun _=>trivial,fun _=>trivial⟩
 ·obtain⟨f,J,hf,ko,blk⟩:=gw;have c4:=J.r4.cell 0 (by simp);have h4:=J.r4.has;have f4:=J.r4.free 0;have c5:=J.r5.cell 0 (by simp);have h5:=J.r5.has;have f5:=J.r5.free 0;have c6:=J.r6.cell 0 (by simp);have h6:=J.r6.has;have f6:=J.r6.free 0;simp only[List.getElem_cons_zero] at c4 c5 c6;have JJ:=PLift.up J;have HF:=PLift.up hf;have KO:=PLift.up ko;have BL:=PLift.up blk;clear J hf ko blk;simp only[Bi];go_simp;refine HK.down _ _ ⟨_,_,rfl,⟨f,JJ.down,fun q=>HF.down (by rw[getD_set_ne false (by decide)] at q;exact q),KO.down,BL.down⟩,kp f0,fun _=>rfl,fun _=>trivial,fun _=>trivial,fun _=>trivial⟩
 ·have d0:=aO 0 (by kernel_rfl);obtain rfl:=f0 d0;obtain⟨f,J,hf,ko,blk⟩:=gw;have c4:=J.r4.cell 0 (by simp);have h4:=J.r4.has;have f4:=J.r4.free 0;have c5:=J.r5.cell 0 (by simp);have h5:=J.r5.has;have f5:=J.r5.free 0;have c6:=J.r6.cell 0 (by simp);have h6:=J.r6.has;have f6:=J.r6.free 0;simp only[List.getElem_cons_zero] at c4 c5 c6;have JJ:=PLift.up J;have HF:=PLift.up hf;have KO:=PLift.up ko;have BL:=PLift.up blk;clear J hf ko blk;clear d0;simp only[Bi];go_simp;refine HK.down _ _ ⟨_,_,rfl,⟨f,JJ.down.st4 HG.down.1 HG.down.2.1 HG.down.2.2,fun q=>HF.down (by rw[getD_set_ne false (by decide)] at q;exact q),(KO.down.trans (KeepsOthers.setCell _ _ _)),(fun j hj h1 h2 h3=>(kZ (by omega)).trans (BL.down j hj h1 h2 h3))⟩,kp f0,kp f1,?_,fun _=>trivial,fun _=>trivial⟩;exact fun _=>trivial
 ·have d1:=aO 1 (by kernel_rfl);obtain rfl:=f1 d1;obtain⟨f,J,hf,ko,blk⟩:=gw;have c4:=J.r4.cell 0 (by simp);have h4:=J.r4.has;have f4:=J.r4.free 0;have c5:=J.r5.cell 0 (by simp);have h5:=J.r5.has;have f5:=J.r5.free 0;have c6:=J.r6.cell 0 (by simp);have h6:=J.r6.has;have f6:=J.r6.free 0;simp only[List.getElem_cons_zero] at c4 c5 c6;have JJ:=PLift.up J;have HF:=PLift.up hf;have KO:=PLift.up ko;have BL:=PLift.up blk;clear J hf ko blk;clear d1;simp only[Bi];go_simp;refine HK.down _ _ ⟨_,_,rfl,⟨f,JJ.down.st5 HG.down.1 HG.down.2.1 HG.down.2.2,fun q=>HF.down (by rw[getD_set_ne false (by decide)] at q;exact q),(KO.down.trans (KeepsOthers.setCell _ _ _)),(fun j hj h1 h2 h3=>(kZ (by omega)).trans (BL.down j hj h1 h2 h3))⟩,kp f0,kp f1,fun _=>trivial,?_,fun _=>trivial⟩;exact fun _=>trivial
 obtain⟨f,J,hf,ko,blk⟩:=gw;have c4:=J.r4.cell 0 (by simp);have h4:=J.r4.has;have f4:=J.r4.free 0;have c5:=J.r5.cell 0 (by simp);have h5:=J.r5.has;have f5:=J.r5.free 0;have c6:=J.r6.cell 0 (by simp);have h6:=J.r6.has;have f6:=J.r6.free 0;simp only[List.getElem_cons_zero] at c4 c5 c6;have JJ:=PLift.up J;have HF:=PLift.up hf;have KO:=PLift.up ko;have BL:=PLift.up blk;clear J hf ko blk;simp only[Bi];go_simp;refine HK.down _ _ ⟨_,_,rfl,⟨-1,JJ.down.st6 HG.down.1 HG.down.2.1 HG.down.2.2 _,fun _=>rfl,(KO.down.trans (KeepsOthers.setCell _ _ _)),(fun j hj h1 h2 h3=>(kZ (by omega)).trans (BL.down j hj h1 h2 h3))⟩,kp f0,kp f1,fun _=>trivial,fun _=>trivial,?_⟩;exact fun _=>trivial
end
end Go.Proofs.YtlmhkjdkcoiioaaGreatDoor
