/- Lemmas and contracts for the proof of PointAlone (several texts in one, printed by wip/tools/pack.py): Ku RpP ClP. -/
import Derived.Test.YtlmhkjdkcoiioaaGreatDoorAl8pp
import Derived.Test.YtlmhkjdkcoiioaaGreatDoorAl8pj
import Derived.Test.YtlmhkjdkcoiioaaGreatDoorAl8pi
import Derived.Laws.OwnMore
import Derived.Test.YtlmhkjdkcoiioaaGreatDoorAl8po
import Derived.Test.YtlmhkjdkcoiioaaGreatDoorAl8pq
set_option maxRecDepth 100000
set_option maxHeartbeats 16000000
set_option linter.unusedVariables false
set_option linter.unusedSimpArgs false
namespace Go.Proofs.YtlmhkjdkcoiioaaGreatDoor
section
open Classical
def xJ(l:List Clk)(p:Int×Int):Prop:=∃u v:Nat,p=((u:Int),(v:Int))/\u<l.length/\(v:Int)<kOf l u
def sR(s:List Int)(p:Int×Int):List Int:=s.set p.1.toNat p.2
theorem Wn{l:List Clk}{s:List Int}{p:Int×Int}(hs:aI l s)(h:xJ l p):aI l (sR s p):=by obtain⟨u,v,rfl,hu,hv⟩:=h;exact hs.set hu (by omega) hv
def qq(s:List Int):List (Int×Int)->List (List Int)
 | []=> []
 |p::ps=>sR s p::qq (sR s p) ps
def bK(s:List Int)(ps:List (Int×Int)):List (List Int):=s::qq s ps
theorem Rh(ps:List (Int×Int)):∀s,(qq s ps).length=ps.length:=by
 induction ps with
 |nil=>intro _;rfl
 |cons p ps ih=>intro s;simp[qq,ih]
theorem cQ(s:List Int)(ps:List (Int×Int)):(bK s ps).length=ps.length+1:=by simp[bK,Rh]
theorem rN(ps:List (Int×Int)):∀(s:List Int) (i:Nat) (hi:i<ps.length),(bK s ps)[i+1]'(by rw[cQ];omega)=sR ((bK s ps)[i]'(by rw[cQ];omega)) ps[i]:=by
 induction ps with
 |nil=>intro s i hi;simp at hi
 |cons p ps ih=>
  intro s i hi;cases i with
  |zero=>simp[bK,qq]
  |succ i=>have:=ih (sR s p) i (by simpa using hi);simp only[bK,qq,List.getElem_cons_succ] at this ⊢;exact this
theorem Dy{l:List Clk}(ps:List (Int×Int)){s:List Int}(hs:aI l s)(hw:∀p∈ps,xJ l p)(i:Nat)(hi:i<(bK s ps).length):aI l (bK s ps)[i]:=by
 induction i with
 |zero=>exact hs
 |succ i ih=>
  have lJ:i<ps.length:=by rw[cQ] at hi;omega
  rw[rN ps s i lJ];exact Wn (ih (by rw[cQ];omega)) (hw _ (List.getElem_mem lJ))
section
variable {l:List Clk} {cal:List Int->Bool} {src:List Int} {D:List Int->Option Int}
theorem Us(h:jc l cal src D):∀(f:Nat) (x:List Int),D x=some (f:Int)->
  (∀p∈jt (nbS l cal) (dz D) f x,xJ l p)/\(∀i (hi:i<(bK x (jt (nbS l cal) (dz D) f x)).length),D (bK x (jt (nbS l cal) (dz D) f x))[i]=some ((f:Int)-i)):=by
 intro f;induction f with
 |zero=>
  intro x hx;refine⟨fun p hp=>by simp[jt] at hp,fun i hi=>?_⟩;have:i=0:=by simp[jt,bK,qq] at hi;exact hi
  subst this;simp[jt,bK,hx]
 |succ f ih=>
  intro x hx;have hz:dz D x=((f+1:Nat):Int):=by simp[dz,hx]
  obtain⟨t,h1,h2,h3⟩:=h.found hx (by omega);obtain⟨u,v,hu,hv,bS,zi,rfl⟩:=qo.1 h2;obtain⟨i1,i2⟩:=ih (x.set u (v:Int)) (by rw[h3];congr 1;omega);have e:jt (nbS l cal) (dz D) (f+1) x=((u:Int),(v:Int))::jt (nbS l cal) (dz D) f (x.set u (v:Int)):=by simp only[jt];rw[if_pos (by omega),h1]
  rw[e];refine⟨fun p hp=>?_,fun i hi=>?_⟩
  ·rcases List.mem_cons.1 hp with rfl|hp
   ·exact⟨u,v,rfl,hu,hv⟩
   exact i1 p hp
  cases i with
  |zero=>simp[bK,hx]
  |succ i=>have:=i2 i (by simpa [bK,qq,sR] using hi);simp only[bK,qq,sR,List.getElem_cons_succ,Int.toNat_natCast] at this ⊢;rw[this];congr 1;omega
theorem yO(h:jc l cal src D){x:List Int}{d:Int}(hx:D x=some d):
  (∀p∈l5 l cal D x,xJ l p)/\(∀i (hi:i<(bK x (l5 l cal D x)).length),D (bK x (l5 l cal D x))[i]=some (d-i)):=by
 have h0:=h.dist.nonneg x d hx;have hz:dz D x=d:=by simp[dz,hx]
 have:=Us h d.toNat x (by rw[hx];congr 1;omega);rw[l5,hz];refine⟨this.1,fun i hi=>?_⟩;rw[this.2 i hi];congr 1;omega
theorem EH(h:jc l cal src D){x:List Int}{d:Int}(hx:D x=some d):(bK x (l5 l cal D x))[(l5 l cal D x).length]'(by rw[cQ];omega)=src:=by have hl:=zR h hx;have:=(yO h hx).2 (l5 l cal D x).length (by rw[cQ];omega);exact h.dist.only _ (by rw[this,hl];simp)
end
end
section
open Go.RowKit
open Classical
def we(wr:World)(L:Nat)(x:List Int)(w:World)(v:Value):Prop:=∃B c,v= .slice (some ⟨B,0,none⟩) L c/\bd w B 3 (an x)/\wr.heap.size<=B
theorem we.gr{wr:World}{L:Nat}{x:List Int}{w w':World}{v:Value}(h:we wr L x w v)(hg:Gr w w'):we wr L x w' v:=let⟨B,c,e,hr,hb⟩:=h;⟨B,c,e,hr.gr hg,hb⟩
def r5F(wr:World)(l:List Clk)(x:List Int)(u v k:Nat)(al:Option Addr)(cl cx c g B P:Nat)(iA il io kD kE jq kj kr ik eM fw fg im kz:Value)(d:Array Bool)(w:World):Prop:=
 Gr wr w/\(d.getD 0 false=true->kD= .slice al l.length cl)/\
 (d.getD 1 false=true->kE= .slice (some ⟨g,0,none⟩) (k+1) c)/\
 (d.getD 2 false=true->jq= .slice (some ⟨g,0,none⟩) (k+1) c)/\
 (d.getD 3 false=true->kj= .int .i64 ((k+1:Nat):Int))/\
 (d.getD 4 false=true->kr= .int .i64 (k:Int))/\
 (d.getD 5 false=true->ik= .pointer (some ⟨g,k,none⟩))/\
 (d.getD 6 false=true->eM= .slice (some ⟨B,0,none⟩) x.length cx)/\
 (d.getD 7 false=true->fw= .agg #[.int .i64 1,.int .i64 u,.int .i64 v])/\
 (d.getD 8 false=true->(∃y,fg= .tuple #[y,.int .i64 0]/\we wr x.length (x.set u (v:Int)) w y))/\
 (d.getD 9 false=true->(∃y,io= .tuple #[y,.int .i64 0]/\we wr x.length (x.set u (v:Int)) w y))/\
 (d.getD 10 false=true->we wr x.length (x.set u (v:Int)) w im)/\
 (d.getD 11 false=true->kz= .int .i64 0)/\
 (d.getD 12 false=true->we wr x.length (x.set u (v:Int)) w iA)/\
 (d.getD 13 false=true->il= .int .i64 0)
def r5A(l:List Clk)(k:Nat)(al:Option Addr)(cl c g P:Nat)(iA il io kD kE jq kj kr ik eM fw fg im kz s1 s2 s3 s4 s5 s6 s7 s9 cI cJ dc dg dk di cK de dQ dI dP dL dE dJ dK dO dM dN eg:Value):Act:={tmps:= #[.slice al l.length cl,s1,s2,s3,s4,s5,s6,s7,.slice (some ⟨g,0,none⟩) (k+1) c,s9,.pointer (some ⟨P,0,none⟩),iA,il,cI,cJ,dc,dg,dk,di,cK,de,dQ,dI,io,kD,kE,jq,kj,kr,ik,eM,fw,fg,im,kz,dP,dL,dE,dJ,dK,dO,dM,dN,eg],defers:= []}
theorem r5{Q:Exit->Act->World->Prop}{wr:World}{l:List Clk}{x:List Int}{u v k:Nat}{al:Option Addr}{cl cx c g B P:Nat}{s1 s2 s3 s4 s5 s6 s7 s9 dR ei cI cJ dc dg dk di cK de dQ dI eG dB dD dv dC du eH eQ eW eO eI ec dP dL dE dJ dK dO dM dN eg:Value}(RX:Row wr P 42 [.int .i64 1,.int .i64 u,.int .i64 v])(he:ag 5 cY wr al l)(hc:bA l=0)(aZ:aI l x)(hq:wr.cell? ⟨g,k,none⟩=some (.slice (some ⟨B,0,none⟩) x.length cx))(QR:bd wr B 3 (an x))(hu:u<l.length)(hv:(v:Int)<kOf l u)(hk:k<=4096)
  (h':∀io kD kE jq kj kr ik eM fw fg im kz B2 c2 wx,Gr wr wx->bd wx B2 3 (an (x.set u (v:Int)))->wr.heap.size<=B2->Q .normal (r5A l k al cl c g P (.slice (some ⟨B2,0,none⟩) x.length c2) (.int .i64 0) io kD kE jq kj kr ik eM fw fg im kz s1 s2 s3 s4 s5 s6 s7 s9 cI cJ dc dg dk di cK de dQ dI dP dL dE dJ dK dO dM dN eg) wx):
  (Code.region 5 (fr 5 Tryz.f105) true).wp Tryz.prog Q {tmps:= #[.slice al l.length cl,s1,s2,s3,s4,s5,s6,s7,.slice (some ⟨g,0,none⟩) (k+1) c,s9,.pointer (some ⟨P,0,none⟩),dR,ei,cI,cJ,dc,dg,dk,di,cK,de,dQ,dI,eG,dB,dD,dv,dC,du,eH,eQ,eW,eO,eI,ec,dP,dL,dE,dJ,dK,dO,dM,dN,eg],defers:= []} wr:=by
 have HE:=PLift.up he;have HT:=PLift.up aZ;have HC:=PLift.up hc;clear he aZ hc;simp only[fr,Tryz.f105,gM,Option.bind_some,Option.getD_some,Nat.beq,cond_true,cond_false];refine dW (fun done a w=>∃iA il io kD kE jq kj kr ik eM fw fg im kz,a=r5A l k al cl c g P iA il io kD kE jq kj kr ik eM fw fg im kz s1 s2 s3 s4 s5 s6 s7 s9 cI cJ dc dg dk di cK de dQ dI dP dL dE dJ dK dO dM dN eg/\r5F wr l x u v k al cl cx c g B P iA il io kD kE jq kj kr ik eM fw fg im kz done w) (by kernel_rfl) (by kernel_rfl) ?_ ⟨?_,?_,?_,?_,?_,?_,?_,?_,?_,?_,?_,?_,?_,?_,trivial⟩ ?_
 ·exact⟨dR,ei,eG,dB,dD,dv,dC,du,eH,eQ,eW,eO,eI,ec,rfl,(gfl _).drew,fun q=>absurd q (by decide),fun q=>absurd q (by decide),fun q=>absurd q (by decide),fun q=>absurd q (by decide),fun q=>absurd q (by decide),fun q=>absurd q (by decide),fun q=>absurd q (by decide),fun q=>absurd q (by decide),fun q=>absurd q (by decide),fun q=>absurd q (by decide),fun q=>absurd q (by decide),fun q=>absurd q (by decide),fun q=>absurd q (by decide),fun q=>absurd q (by decide)⟩
 rotate_right
 ·rintro done a w aH ⟨iA,il,io,kD,kE,jq,kj,kr,ik,eM,fw,fg,im,kz,rfl,gw,f0,f1,f2,f3,f4,f5,f6,f7,f8,f9,f10,dV,fK,fI⟩;obtain⟨B2,c2,rfl,hr,hb⟩:=fK (aH 12 (by decide));obtain rfl:=fI (aH 13 (by decide));exact h' _ _ _ _ _ _ _ _ _ _ _ _ B2 c2 w gw hr hb
 all_goals(rintro done a w iB fD aO ⟨iA,il,io,kD,kE,jq,kj,kr,ik,eM,fw,fg,im,kz,rfl,gw,f0,f1,f2,f3,f4,f5,f6,f7,f8,f9,f10,dV,fK,fI⟩ K hK;have hn:=nd fD;have HK:=PLift.up hK;clear hK)
 ·simp only[r5A];go_simp;have gg:=gfl w;refine HK.down _ _ ⟨_,_,_,_,_,_,_,_,_,_,_,_,_,_,rfl,gw,fun _=>rfl,kp f1,kp f2,kp f3,kp f4,kp f5,kp f6,kp f7,ku f8,ku f9,ku f10,kp dV,ku fK,kp fI⟩
 ·simp only[r5A];go_simp;have gg:=gfl w;refine HK.down _ _ ⟨_,_,_,_,_,_,_,_,_,_,_,_,_,_,rfl,gw,kp f0,fun _=>rfl,kp f2,kp f3,kp f4,kp f5,kp f6,kp f7,ku f8,ku f9,ku f10,kp dV,ku fK,kp fI⟩
 ·simp only[r5A];go_simp;have gg:=gfl w;refine HK.down _ _ ⟨_,_,_,_,_,_,_,_,_,_,_,_,_,_,rfl,gw,kp f0,kp f1,fun _=>rfl,kp f3,kp f4,kp f5,kp f6,kp f7,ku f8,ku f9,ku f10,kp dV,ku fK,kp fI⟩
 ·have d2:=aO 2 (by kernel_rfl);obtain rfl:=f2 d2;clear d2;simp only[r5A];go_simp;have gg:=gfl w;refine HK.down _ _ ⟨_,_,_,_,_,_,_,_,_,_,_,_,_,_,rfl,gw,kp f0,kp f1,kp f2,fun _=>rfl,kp f4,kp f5,kp f6,kp f7,ku f8,ku f9,ku f10,kp dV,ku fK,kp fI⟩
 ·have d3:=aO 3 (by kernel_rfl);obtain rfl:=f3 d3;have kw:IntKind.i64.wrap (k:Int)=(k:Int):=by rw[IntKind.wrap_i64];omega
  clear d3;simp only[r5A];go_simp;have gg:=gfl w;refine HK.down _ _ ⟨_,_,_,_,_,_,_,_,_,_,_,_,_,_,rfl,gw,kp f0,kp f1,kp f2,kp f3,fun _=>rfl,kp f5,kp f6,kp f7,ku f8,ku f9,ku f10,kp dV,ku fK,kp fI⟩
 ·have d1:=aO 1 (by kernel_rfl);have d4:=aO 4 (by kernel_rfl);obtain rfl:=f1 d1;obtain rfl:=f4 d4;have q0:=aB gw hq;have hh:=ae q0;have kk:(k:Int)<(k:Int)+1:=by omega
  clear d1 d4;simp only[r5A];go_simp;have gg:=gfl w;refine HK.down _ _ ⟨_,_,_,_,_,_,_,_,_,_,_,_,_,_,rfl,gw,kp f0,kp f1,kp f2,kp f3,kp f4,fun _=>rfl,kp f6,kp f7,ku f8,ku f9,ku f10,kp dV,ku fK,kp fI⟩
 ·have d5:=aO 5 (by kernel_rfl);obtain rfl:=f5 d5;have q0:=aB gw hq;have hh:=ae q0;clear d5;simp only[r5A];go_simp;have gg:=gfl w;refine HK.down _ _ ⟨_,_,_,_,_,_,_,_,_,_,_,_,_,_,rfl,gw,kp f0,kp f1,kp f2,kp f3,kp f4,kp f5,fun _=>rfl,kp f7,ku f8,ku f9,ku f10,kp dV,ku fK,kp fI⟩
 ·have r:=RX.gr gw;have c0:=r.cell 0 (by simp);have c1:=r.cell 1 (by simp);have c2:=r.cell 2 (by simp);have ch:=r.has;simp only[List.getElem_cons_zero,List.getElem_cons_succ] at c0 c1 c2;clear r;simp only[r5A];go_simp;have gg:=gfl w;refine HK.down _ _ ⟨_,_,_,_,_,_,_,_,_,_,_,_,_,_,rfl,gw,kp f0,kp f1,kp f2,kp f3,kp f4,kp f5,kp f6,fun _=>rfl,ku f8,ku f9,ku f10,kp dV,ku fK,kp fI⟩
 ·have d0:=aO 0 (by kernel_rfl);have d6:=aO 6 (by kernel_rfl);have d7:=aO 7 (by kernel_rfl);obtain rfl:=f0 d0;obtain rfl:=f6 d6;obtain rfl:=f7 d7;clear d0 d6 d7;simp only[r5A];go_simp;refine(KV l x u v al (some ⟨B,0,none⟩) cl cx w (bj HE.down gw) ((QR.gr gw).slI (gm HC.down HT.down)) HC.down HT.down hu hv).mono ?_;rintro e w2 ⟨B2,c2,rfl,hr,hb,hg⟩;have gg:Gr w w2:=hg;clear hg
  (try go_simp)
  refine HK.down _ _ ⟨_,_,_,_,_,_,_,_,_,_,_,_,_,_,rfl,gw.trans gg,kp f0,kp f1,kp f2,kp f3,kp f4,kp f5,kp f6,kp f7,?_,ku f9,ku f10,kp dV,ku fK,kp fI⟩;exact fun _=>⟨_,rfl,B2,c2,rfl,hr,Nat.le_trans gw.size hb⟩
 ·have d8:=aO 8 (by kernel_rfl);obtain⟨y,rfl,hy⟩:=f8 d8;have HY:=PLift.up hy;clear hy;simp only[r5A];go_simp;have gg:=gfl w;refine HK.down _ _ ⟨_,_,_,_,_,_,_,_,_,_,_,_,_,_,rfl,gw,kp f0,kp f1,kp f2,kp f3,kp f4,kp f5,kp f6,kp f7,fun _=>⟨y,rfl,HY.down⟩,?_,ku f10,kp dV,ku fK,kp fI⟩;exact fun _=>⟨y,rfl,HY.down⟩
 ·have d9:=aO 9 (by kernel_rfl);obtain⟨y,rfl,hy⟩:=f9 d9;have HY:=PLift.up hy;clear hy;simp only[r5A];go_simp;have gg:=gfl w;refine HK.down _ _ ⟨_,_,_,_,_,_,_,_,_,_,_,_,_,_,rfl,gw,kp f0,kp f1,kp f2,kp f3,kp f4,kp f5,kp f6,kp f7,ku f8,fun _=>⟨y,rfl,HY.down⟩,?_,kp dV,ku fK,kp fI⟩;exact fun _=>HY.down
 ·have d9:=aO 9 (by kernel_rfl);obtain⟨y,rfl,hy⟩:=f9 d9;have HY:=PLift.up hy;clear hy;simp only[r5A];go_simp;have gg:=gfl w;refine HK.down _ _ ⟨_,_,_,_,_,_,_,_,_,_,_,_,_,_,rfl,gw,kp f0,kp f1,kp f2,kp f3,kp f4,kp f5,kp f6,kp f7,ku f8,fun _=>⟨y,rfl,HY.down⟩,ku f10,fun _=>rfl,ku fK,kp fI⟩
 ·have GP:=aO 10 (by kernel_rfl);have HY:=PLift.up (f10 GP);simp only[r5A];go_simp;have gg:=gfl w;refine HK.down _ _ ⟨_,_,_,_,_,_,_,_,_,_,_,_,_,_,rfl,gw,kp f0,kp f1,kp f2,kp f3,kp f4,kp f5,kp f6,kp f7,ku f8,ku f9,ku f10,kp dV,?_,kp fI⟩;exact fun _=>HY.down
 have K6:=aO 11 (by kernel_rfl);obtain rfl:=dV K6;clear K6;simp only[r5A];go_simp;have gg:=gfl w;refine HK.down _ _ ⟨_,_,_,_,_,_,_,_,_,_,_,_,_,_,rfl,gw,kp f0,kp f1,kp f2,kp f3,kp f4,kp f5,kp f6,kp f7,ku f8,ku f9,ku f10,kp dV,ku fK,fun _=>rfl⟩
def p5F(wr:World)(l:List Clk)(x:List Int)(u v k:Nat)(al:Option Addr)(cl cx c g B P:Nat)(iA il jB io kD kE jq kj kr ik eM fw fg im:Value)(d:Array Bool)(w:World):Prop:=
 Gr wr w/\(d.getD 0 false=true->io= .slice al l.length cl)/\
 (d.getD 1 false=true->kD= .slice (some ⟨g,0,none⟩) (k+1) c)/\
 (d.getD 2 false=true->kE= .slice (some ⟨g,0,none⟩) (k+1) c)/\
 (d.getD 3 false=true->jq= .int .i64 ((k+1:Nat):Int))/\
 (d.getD 4 false=true->kj= .int .i64 (k:Int))/\
 (d.getD 5 false=true->kr= .pointer (some ⟨g,k,none⟩))/\
 (d.getD 6 false=true->ik= .slice (some ⟨B,0,none⟩) x.length cx)/\
 (d.getD 7 false=true->eM= .agg #[.int .i64 1,.int .i64 u,.int .i64 v])/\
 (d.getD 8 false=true->(∃y,fw= .tuple #[y,.int .i64 0]/\we wr x.length (x.set u (v:Int)) w y))/\
 (d.getD 9 false=true->(∃y,jB= .tuple #[y,.int .i64 0]/\we wr x.length (x.set u (v:Int)) w y))/\
 (d.getD 10 false=true->we wr x.length (x.set u (v:Int)) w fg)/\
 (d.getD 11 false=true->im= .int .i64 0)/\
 (d.getD 12 false=true->we wr x.length (x.set u (v:Int)) w iA)/\
 (d.getD 13 false=true->il= .int .i64 0)
def p5A(l:List Clk)(k:Nat)(al:Option Addr)(cl c g P:Nat)(iA il jB io kD kE jq kj kr ik eM fw fg im s1 s2 s3 s4 s5 s6 s7 s9 cI cJ dc dg dk di cK de dQ ec dP dL dE dJ dK dO dM dN:Value):Act:={tmps:= #[.slice al l.length cl,s1,s2,s3,s4,s5,s6,s7,.slice (some ⟨g,0,none⟩) (k+1) c,s9,.pointer (some ⟨P,0,none⟩),iA,il,cI,cJ,dc,dg,dk,di,cK,de,dQ,jB,io,kD,kE,jq,kj,kr,ik,eM,fw,fg,im,ec,dP,dL,dE,dJ,dK,dO,dM,dN],defers:= []}
theorem p5{Q:Exit->Act->World->Prop}{wr:World}{l:List Clk}{x:List Int}{u v k:Nat}{al:Option Addr}{cl cx c g B P:Nat}{s1 s2 s3 s4 s5 s6 s7 s9 dR ei cI cJ dc dg dk di cK de dQ dI eG dB dD dv dC du eH eQ eW eO eI ec dP dL dE dJ dK dO dM dN:Value}(RX:Row wr P 42 [.int .i64 1,.int .i64 u,.int .i64 v])(he:ag 5 cY wr al l)(hc:bA l=0)(aZ:aI l x)(hq:wr.cell? ⟨g,k,none⟩=some (.slice (some ⟨B,0,none⟩) x.length cx))(QR:bd wr B 3 (an x))(hu:u<l.length)(hv:(v:Int)<kOf l u)(hk:k<=4096)
  (h':∀jB io kD kE jq kj kr ik eM fw fg im B2 c2 wx,Gr wr wx->bd wx B2 3 (an (x.set u (v:Int)))->wr.heap.size<=B2->Q .normal (p5A l k al cl c g P (.slice (some ⟨B2,0,none⟩) x.length c2) (.int .i64 0) jB io kD kE jq kj kr ik eM fw fg im s1 s2 s3 s4 s5 s6 s7 s9 cI cJ dc dg dk di cK de dQ ec dP dL dE dJ dK dO dM dN) wx):
  (Code.region 5 (fr 5 Tryz.f54) true).wp Tryz.prog Q {tmps:= #[.slice al l.length cl,s1,s2,s3,s4,s5,s6,s7,.slice (some ⟨g,0,none⟩) (k+1) c,s9,.pointer (some ⟨P,0,none⟩),dR,ei,cI,cJ,dc,dg,dk,di,cK,de,dQ,dI,eG,dB,dD,dv,dC,du,eH,eQ,eW,eO,eI,ec,dP,dL,dE,dJ,dK,dO,dM,dN],defers:= []} wr:=by
 have HE:=PLift.up he;have HT:=PLift.up aZ;have HC:=PLift.up hc;clear he aZ hc;simp only[fr,Tryz.f54,gM,Option.bind_some,Option.getD_some,Nat.beq,cond_true,cond_false];refine dW (fun done a w=>∃iA il jB io kD kE jq kj kr ik eM fw fg im,a=p5A l k al cl c g P iA il jB io kD kE jq kj kr ik eM fw fg im s1 s2 s3 s4 s5 s6 s7 s9 cI cJ dc dg dk di cK de dQ ec dP dL dE dJ dK dO dM dN/\p5F wr l x u v k al cl cx c g B P iA il jB io kD kE jq kj kr ik eM fw fg im done w) (by kernel_rfl) (by kernel_rfl) ?_ ⟨?_,?_,?_,?_,?_,?_,?_,?_,?_,?_,?_,?_,?_,?_,trivial⟩ ?_
 ·exact⟨dR,ei,dI,eG,dB,dD,dv,dC,du,eH,eQ,eW,eO,eI,rfl,(gfl _).drew,fun q=>absurd q (by decide),fun q=>absurd q (by decide),fun q=>absurd q (by decide),fun q=>absurd q (by decide),fun q=>absurd q (by decide),fun q=>absurd q (by decide),fun q=>absurd q (by decide),fun q=>absurd q (by decide),fun q=>absurd q (by decide),fun q=>absurd q (by decide),fun q=>absurd q (by decide),fun q=>absurd q (by decide),fun q=>absurd q (by decide),fun q=>absurd q (by decide)⟩
 rotate_right
 ·rintro done a w aH ⟨iA,il,jB,io,kD,kE,jq,kj,kr,ik,eM,fw,fg,im,rfl,gw,f0,f1,f2,f3,f4,f5,f6,f7,f8,f9,f10,dV,fK,fI⟩;obtain⟨B2,c2,rfl,hr,hb⟩:=fK (aH 12 (by decide));obtain rfl:=fI (aH 13 (by decide));exact h' _ _ _ _ _ _ _ _ _ _ _ _ B2 c2 w gw hr hb
 all_goals(rintro done a w iB fD aO ⟨iA,il,jB,io,kD,kE,jq,kj,kr,ik,eM,fw,fg,im,rfl,gw,f0,f1,f2,f3,f4,f5,f6,f7,f8,f9,f10,dV,fK,fI⟩ K hK;have hn:=nd fD;have HK:=PLift.up hK;clear hK)
 ·simp only[p5A];go_simp;have gg:=gfl w;refine HK.down _ _ ⟨_,_,_,_,_,_,_,_,_,_,_,_,_,_,rfl,gw,fun _=>rfl,kp f1,kp f2,kp f3,kp f4,kp f5,kp f6,kp f7,ku f8,ku f9,ku f10,kp dV,ku fK,kp fI⟩
 ·simp only[p5A];go_simp;have gg:=gfl w;refine HK.down _ _ ⟨_,_,_,_,_,_,_,_,_,_,_,_,_,_,rfl,gw,kp f0,fun _=>rfl,kp f2,kp f3,kp f4,kp f5,kp f6,kp f7,ku f8,ku f9,ku f10,kp dV,ku fK,kp fI⟩
 ·simp only[p5A];go_simp;have gg:=gfl w;refine HK.down _ _ ⟨_,_,_,_,_,_,_,_,_,_,_,_,_,_,rfl,gw,kp f0,kp f1,fun _=>rfl,kp f3,kp f4,kp f5,kp f6,kp f7,ku f8,ku f9,ku f10,kp dV,ku fK,kp fI⟩
 ·have d2:=aO 2 (by kernel_rfl);obtain rfl:=f2 d2;clear d2;simp only[p5A];go_simp;have gg:=gfl w;refine HK.down _ _ ⟨_,_,_,_,_,_,_,_,_,_,_,_,_,_,rfl,gw,kp f0,kp f1,kp f2,fun _=>rfl,kp f4,kp f5,kp f6,kp f7,ku f8,ku f9,ku f10,kp dV,ku fK,kp fI⟩
 ·have d3:=aO 3 (by kernel_rfl);obtain rfl:=f3 d3;have kw:IntKind.i64.wrap (k:Int)=(k:Int):=by rw[IntKind.wrap_i64];omega
  clear d3;simp only[p5A];go_simp;have gg:=gfl w;refine HK.down _ _ ⟨_,_,_,_,_,_,_,_,_,_,_,_,_,_,rfl,gw,kp f0,kp f1,kp f2,kp f3,fun _=>rfl,kp f5,kp f6,kp f7,ku f8,ku f9,ku f10,kp dV,ku fK,kp fI⟩
 ·have d1:=aO 1 (by kernel_rfl);have d4:=aO 4 (by kernel_rfl);obtain rfl:=f1 d1;obtain rfl:=f4 d4;have q0:=aB gw hq;have hh:=ae q0;have kk:(k:Int)<(k:Int)+1:=by omega
  clear d1 d4;simp only[p5A];go_simp;have gg:=gfl w;refine HK.down _ _ ⟨_,_,_,_,_,_,_,_,_,_,_,_,_,_,rfl,gw,kp f0,kp f1,kp f2,kp f3,kp f4,fun _=>rfl,kp f6,kp f7,ku f8,ku f9,ku f10,kp dV,ku fK,kp fI⟩
 ·have d5:=aO 5 (by kernel_rfl);obtain rfl:=f5 d5;have q0:=aB gw hq;have hh:=ae q0;clear d5;simp only[p5A];go_simp;have gg:=gfl w;refine HK.down _ _ ⟨_,_,_,_,_,_,_,_,_,_,_,_,_,_,rfl,gw,kp f0,kp f1,kp f2,kp f3,kp f4,kp f5,fun _=>rfl,kp f7,ku f8,ku f9,ku f10,kp dV,ku fK,kp fI⟩
 ·have r:=RX.gr gw;have c0:=r.cell 0 (by simp);have c1:=r.cell 1 (by simp);have c2:=r.cell 2 (by simp);have ch:=r.has;simp only[List.getElem_cons_zero,List.getElem_cons_succ] at c0 c1 c2;clear r;simp only[p5A];go_simp;have gg:=gfl w;refine HK.down _ _ ⟨_,_,_,_,_,_,_,_,_,_,_,_,_,_,rfl,gw,kp f0,kp f1,kp f2,kp f3,kp f4,kp f5,kp f6,fun _=>rfl,ku f8,ku f9,ku f10,kp dV,ku fK,kp fI⟩
 ·have d0:=aO 0 (by kernel_rfl);have d6:=aO 6 (by kernel_rfl);have d7:=aO 7 (by kernel_rfl);obtain rfl:=f0 d0;obtain rfl:=f6 d6;obtain rfl:=f7 d7;clear d0 d6 d7;simp only[p5A];go_simp;refine(JT l x u v al (some ⟨B,0,none⟩) cl cx w (bj HE.down gw) ((QR.gr gw).slI (gm HC.down HT.down)) HC.down HT.down hu hv).mono ?_;rintro e w2 ⟨B2,c2,rfl,hr,hb,hg⟩;have gg:Gr w w2:=hg;clear hg
  (try go_simp)
  refine HK.down _ _ ⟨_,_,_,_,_,_,_,_,_,_,_,_,_,_,rfl,gw.trans gg,kp f0,kp f1,kp f2,kp f3,kp f4,kp f5,kp f6,kp f7,?_,ku f9,ku f10,kp dV,ku fK,kp fI⟩;exact fun _=>⟨_,rfl,B2,c2,rfl,hr,Nat.le_trans gw.size hb⟩
 ·have d8:=aO 8 (by kernel_rfl);obtain⟨y,rfl,hy⟩:=f8 d8;have HY:=PLift.up hy;clear hy;simp only[p5A];go_simp;have gg:=gfl w;refine HK.down _ _ ⟨_,_,_,_,_,_,_,_,_,_,_,_,_,_,rfl,gw,kp f0,kp f1,kp f2,kp f3,kp f4,kp f5,kp f6,kp f7,fun _=>⟨y,rfl,HY.down⟩,?_,ku f10,kp dV,ku fK,kp fI⟩;exact fun _=>⟨y,rfl,HY.down⟩
 ·have d9:=aO 9 (by kernel_rfl);obtain⟨y,rfl,hy⟩:=f9 d9;have HY:=PLift.up hy;clear hy;simp only[p5A];go_simp;have gg:=gfl w;refine HK.down _ _ ⟨_,_,_,_,_,_,_,_,_,_,_,_,_,_,rfl,gw,kp f0,kp f1,kp f2,kp f3,kp f4,kp f5,kp f6,kp f7,ku f8,fun _=>⟨y,rfl,HY.down⟩,?_,kp dV,ku fK,kp fI⟩;exact fun _=>HY.down
 ·have d9:=aO 9 (by kernel_rfl);obtain⟨y,rfl,hy⟩:=f9 d9;have HY:=PLift.up hy;clear hy;simp only[p5A];go_simp;have gg:=gfl w;refine HK.down _ _ ⟨_,_,_,_,_,_,_,_,_,_,_,_,_,_,rfl,gw,kp f0,kp f1,kp f2,kp f3,kp f4,kp f5,kp f6,kp f7,ku f8,fun _=>⟨y,rfl,HY.down⟩,ku f10,fun _=>rfl,ku fK,kp fI⟩
 ·have GP:=aO 10 (by kernel_rfl);have HY:=PLift.up (f10 GP);simp only[p5A];go_simp;have gg:=gfl w;refine HK.down _ _ ⟨_,_,_,_,_,_,_,_,_,_,_,_,_,_,rfl,gw,kp f0,kp f1,kp f2,kp f3,kp f4,kp f5,kp f6,kp f7,ku f8,ku f9,ku f10,kp dV,?_,kp fI⟩;exact fun _=>HY.down
 have K6:=aO 11 (by kernel_rfl);obtain rfl:=dV K6;clear K6;simp only[p5A];go_simp;have gg:=gfl w;refine HK.down _ _ ⟨_,_,_,_,_,_,_,_,_,_,_,_,_,_,rfl,gw,kp f0,kp f1,kp f2,kp f3,kp f4,kp f5,kp f6,kp f7,ku f8,ku f9,ku f10,kp dV,ku fK,fun _=>rfl⟩
def FY(base:Nat)(w:World)(os:List OT):Prop:=∀o∈os,bd w o.B 3 (an o.t)/\base<=o.B
theorem FY.gr{base:Nat}{w w':World}{os:List OT}(h:FY base w os)(hg:Gr w w'):FY base w' os:=fun o ho=>⟨(h o ho).1.gr hg,(h o ho).2⟩
def Hf(w:World)(s:List Int)(ps:List (Int×Int))(e:Ending)(w':World):Prop:=
 ∃(os:List OT) (a:Option Addr) (c:Nat),e= .returned (.tuple #[.slice a (ps.length+1) c,.int .i64 0])/\os.map OT.t=bK s ps/\
  w'.ownsRow w.heap.size 22 1 (.slice a (ps.length+1) c) (ps.length+1) (os.map (Jy s.length))/\FY w.heap.size w' os/\Gr w w'
structure FF(w:World)(s:List Int)(ps:List (Int×Int))(k:Nat)(os:List OT)(a:Option Addr)(c:Nat)(wr:World):Prop where
 path:os.map OT.t=bK s (ps.take k)
 own:wr.ownsRow w.heap.size 22 1 (.slice a (k+1) c) (k+1) (os.map (Jy s.length))
 rows:FY w.heap.size wr os
 gr:Gr w wr
theorem sd(s:List Int)(ps:List (Int×Int))(k:Nat)(hk:k<ps.length):bK s (ps.take (k+1))=bK s (ps.take k)++ [sR ((bK s ps)[k]'(by rw[cQ];omega)) ps[k]]:=by
 have app:∀(qs:List (Int×Int)) (s:List Int) (p:Int×Int),bK s (qs++ [p])=bK s qs++ [sR ((bK s qs)[qs.length]'(by rw[cQ];omega)) p]:=by
  intro qs;induction qs with
  |nil=>intro s p;simp[bK,qq]
  |cons q qs ih=>intro s p;have:=ih (sR s q) p;simp only[bK,qq,List.cons_append,List.cons.injEq,true_and,List.length_cons,List.getElem_cons_succ] at this ⊢;exact this
 have pre:∀(k:Nat) (h:k<=ps.length),(bK s (ps.take k))[k]'(by rw[cQ,List.length_take];omega)=(bK s ps)[k]'(by rw[cQ];omega):=by
  intro k;induction k with
  |zero=>intro _;simp[bK]
  |succ k ih=>
   intro h;have e1:=rN (ps.take (k+1)) s k (by rw[List.length_take];omega);have e2:=rN ps s k (by omega);rw[e1,e2];have ht:ps.take (k+1)=ps.take k++ [ps[k]]:=by rw[List.take_add_one,List.getElem?_eq_getElem (by omega)];rfl
   have e3:(ps.take (k+1))[k]'(by rw[List.length_take];omega)=ps[k]:=by simp
   rw[e3];congr 1;rw[<-ih (by omega)];have e4:bK s (ps.take (k+1))=bK s (ps.take k)++ [sR ((bK s (ps.take k))[(ps.take k).length]'(by rw[cQ];omega)) ps[k]]:=by rw[ht];exact app _ _ _
   simp only[e4];rw[List.getElem_append_left (by rw[cQ,List.length_take];omega)]
 have ht:ps.take (k+1)=ps.take k++ [ps[k]]:=by rw[List.take_add_one,List.getElem?_eq_getElem hk];rfl
 rw[ht,app];have e5:(ps.take k).length=k:=by rw[List.length_take];omega
 simp only[e5,pre k (by omega)]
theorem FF.last{w wr:World}{s:List Int}{ps:List (Int×Int)}{k:Nat}{os:List OT}{a:Option Addr}{c:Nat}(h:FF w s ps k os a c wr)(hk:k<=ps.length):
  ∃(g B cx:Nat),a=some ⟨g,0,none⟩/\wr.cell? ⟨g,k,none⟩=some (.slice (some ⟨B,0,none⟩) s.length cx)/\bd wr B 3 (an ((bK s ps)[k]'(by rw[cQ];omega))):=by
 obtain⟨g,cap,e,_,_,hc⟩:=fM h.own (by omega);cases e
 have hl:os.length=k+1:=by have:=congrArg List.length h.path;rw[List.length_map,cQ,List.length_take] at this;omega
 have q:=hc k (by omega);rw[List.getElem?_eq_getElem (by rw[List.length_map];omega),List.getElem_map] at q;have hr:=(h.rows os[k] (List.getElem_mem _)).1;have et:os[k].t=(bK s ps)[k]'(by rw[cQ];omega):=by
  have e1:(os.map OT.t)[k]'(by rw[List.length_map];omega)=(bK s (ps.take k))[k]'(by rw[cQ,List.length_take];omega):=by simp only[h.path]
  rw[List.getElem_map] at e1;rw[e1];by_cases e:k=ps.length
  ·subst e;simp
  have e2:=sd s ps k (by omega);cases k with
  |zero=>simp[bK]
  |succ j=>have e4:=sd s ps j (by omega);simp only[e4];rw[List.getElem_append_right (by rw[cQ,List.length_take];omega)];simp only[cQ,List.length_take];rw[rN ps s j (by omega)];simp
 rw[et] at hr;exact⟨g,os[k].B,os[k].c,rfl,q,hr⟩
theorem Fd(l:List Clk)(s:List Int)(ps:List (Int×Int))(al aS ap:Option Addr)(cl cs cp:Nat)(w:World)(h:ag 5 cY w al l)(hs:ag 1 RI w aS s)(hp:ag 3 RWc w ap ps)(hc:bA l=0)(aZ:aI l s)(hw:∀p∈ps,xJ l p)(h1:1<=l.length)(dw:ps.length<=4096):
  Calls Tryz.prog 54 #[.slice al l.length cl,.slice aS s.length cs,.slice ap ps.length cp] w (Hf w s ps):=by
 have hl:=cg (bm hc).1;have HSL:=aa aZ.1;have hs1:0<s.length:=by have:=aZ.1;omega
 have zG:s.length<=16:=by have:=aZ.1;omega
 obtain⟨k0,gH,lR,jm,ly⟩:=info_parts Tu;have CL:=aa (Sf s aS cs w hs (by omega) (by omega));have H:=aa h;have HP:=aa hp;have HC:=aa hc;have HT:=aa aZ;have HW:=aa hw;clear hs h hp hc aZ hw;go_enter Tryz.func54,Tryz.ntmps54;go_wp2_with fail;refine CL.out.mono ?_;rintro e W2 ⟨N2,cap,rfl,Ak,px,bY⟩;have R2:=aa Ak;have G2:=aa bY;have hN2:=aa px;clear Ak px bY;go_wp2_with fail;have hW2:Hid (w.heap.size<=W2.heap.size):=aa G2.out.size;have O2:Hid ((W2.alloc (.cells #[.slice (some ⟨N2,0,none⟩) s.length cap] 22)).ownsRow w.heap.size 22 1 (.slice (some ⟨W2.heap.size,0,none⟩) 1 1) 1 [.slice (some ⟨N2,0,none⟩) s.length cap]):=aa (World.ownsRow_lit W2 #[.slice (some ⟨N2,0,none⟩) s.length cap] 1 hW2.out (by unfold maxLen;omega) rfl);have P0:Hid (FF w s ps 0 [⟨s,N2,cap⟩] (some ⟨W2.heap.size,0,none⟩) 1 (W2.alloc (.cells #[.slice (some ⟨N2,0,none⟩) s.length cap] 22))):=aa
  ⟨by simp[bK,qq],O2.out,(fun o ho=>by
   have:o=⟨s,N2,cap⟩:=by simpa using ho
   subst this;exact⟨R2.out.alloc _,hN2.out⟩),G2.out.alloc _⟩
 clear R2 G2 hN2 O2;go_loopw [8,18] (fun s8 cK wr=>∃(k:Nat) (os:List OT) (a:Option Addr) (c:Nat),cK= .int .i64 (k:Int)/\s8= .slice a (k+1) c/\k<=ps.length/\FF w s ps k os a c wr) (fun _ cK _=>ps.length-(intOf cK).toNat);case atStart=>exact⟨0,_,_,_,rfl,rfl,Nat.zero_le _,P0.out⟩
 case round=>
  clear P0;obtain⟨k,os',a,c,rfl,rfl,hk,dU⟩:=hrel;have S:=aa dU;by_cases aA:k<ps.length
  ·obtain⟨u,v,epk,hu,hv⟩:=HW.out _ (List.getElem_mem aA);obtain⟨g,B,cx,rfl,q0,qr⟩:=dU.last hk;obtain⟨bp,op,rfl,⟨p0,_⟩,⟨p1,_⟩,⟨p2,_⟩⟩:=HP.out.gr RWc.mono dU.gr k aA;rw[epk] at p1 p2;have hxk:=Dy ps HT.out HW.out k (by rw[cQ];omega);have stp:=rN ps s k aA;obtain⟨x,hx⟩:∃x,(bK s ps)[k]'(by rw[cQ];omega)=x:=⟨_,rfl⟩;rw[hx] at qr hxk stp;rw[epk] at stp;have XL:Hid (x.length=s.length):=aa (by rw[hxk.1,HSL.out]);have QR:=aa qr;have XK:=aa hxk;have ST:=aa stp;have EP:=aa epk;have HX:=aa hx;have k2:(k:Int)<ps.length:=by omega
   have Ha:=ae q0;have hgp:=ae p0;clear dU qr hxk stp epk hx;go_wp2_with fail;obtain⟨W5,hW5⟩:∃W5:World,Hid (W5=wr.alloc (.cells #[.int .i64 1,.int .i64 u,.int .i64 v] 42)):=⟨_,aa rfl⟩;have RW:Hid (Row W5 wr.heap.size 42 [.int .i64 1,.int .i64 u,.int .i64 v]):=aa (by rw[hW5.out];exact Row.new wr #[.int .i64 1,.int .i64 u,.int .i64 v] 42);have g5:Hid (Gr wr W5):=aa (by rw[hW5.out];exact(gfl _).alloc _);obtain⟨P,hP⟩:∃P,wr.heap.size=P:=⟨_,rfl⟩;rw[<-hW5.out];rw[hP] at RW ⊢;have WR:=aB g5.out q0;rw[<-XL.out] at WR;have hk4:k<=4096:=by omega
   clear hW5 hP q0 p0 p1 p2;refine m6 (c:=Code.region 5 (fr 5 Tryz.f54) true) (by kernel_rfl) (p5 (wr:=W5) (l:=l) (x:=x) (u:=u) (v:=v) (k:=k) (al:=al) (cl:=cl) (cx:=cx) (c:=c) (g:=g) (B:=B) (P:=P) RW.out (bj H.out (S.out.gr.trans g5.out)) HC.out XK.out WR (QR.out.gr g5.out) hu hv hk4 ?_);intro jB io kD kE jq kj kr ik eM fw fg im B2 c2 W6 jU Ak px;simp only[p5A];rw[XL.out];have g6:Hid (Gr wr (W6.alloc (.cells #[.slice (some ⟨B2,0,none⟩) s.length c2] 22))):=aa ((g5.out.trans jU).alloc _);have O6:=aa (Gr.owns S.out.own g6.out);have I6:=aa (S.out.rows.gr g6.out);have N6:=aa (Ak.gr ((Gr.refl W6).alloc (.cells #[.slice (some ⟨B2,0,none⟩) s.length c2] 22)));have GW6:=aa (S.out.gr.trans g6.out);have YE:Hid (w.heap.size<=B2):=aa (Nat.le_trans (Nat.le_trans S.out.gr.size g5.out.size) px);have CC:Hid (∀j y,([Value.slice (some ⟨B2,0,none⟩) s.length c2])[j]?=some y->(W6.alloc (.cells #[.slice (some ⟨B2,0,none⟩) s.length c2] 22)).cell? ((⟨W6.heap.size,0,none⟩:Addr).add j)=some y):=aa (fY (Row.new W6 #[.slice (some ⟨B2,0,none⟩) s.length c2] 22));have base:=aa GW6.out.size;clear jU Ak px g5 g6 RW QR WR Ha hgp;go_wp2_with (first
    |(at_builtin;refine wpList_append_own _ rfl _ _ 60 rfl w.heap.size 22 k0 (.slice none 0 0) 1 24 Tryz.underlying60 gH lR jm ly rfl (by decide) (.slice (some ⟨g,0,none⟩) (k+1) c) (k+1) (os'.map (Jy s.length)) rfl O6.out ⟨W6.heap.size,0,none⟩ 1 1 [.slice (some ⟨B2,0,none⟩) s.length c2] rfl rfl CC.out (by simp[Value.oneCell']) (by unfold maxLen;omega) (by omega) base.out ?_;intro v' W7 aV aE eJ;obtain⟨a7,c7,rfl⟩:=be aV;have O7:=aa aV;have G7:=aa (GW6.out.grown aE (fun k e=>(O6.out.lt k e).1));have I7:Hid (FY w.heap.size W7 os'):=aa (fun o ho=>⟨(I6.out o ho).1.grown aE (aJ O6.out (I6.out o ho).1 (by decide)),(I6.out o ho).2⟩);have N7:=aa (N6.out.grown aE (aJ O6.out N6.out (by decide)));clear aV aE eJ)
    |fail)
   go_roundw;case rel=>
    refine⟨k+1,os'++ [⟨x.set u (v:Int),B2,c2⟩],a7,c7,by go_num,rfl,by omega,?_,?_,?_,G7.out⟩
    ·rw[List.map_append,S.out.path,sd s ps k aA,HX.out,EP.out];simp[sR]
    ·have:=O7.out;simpa [Jy] using this
    intro o ho;rcases List.mem_append.1 ho with ho|ho
    ·exact I7.out o ho
    have:o=⟨x.set u (v:Int),B2,c2⟩:=(by simpa using ho);subst this;exact⟨N7.out,YE.out⟩
   case measure=>simp[intOf];omega
  have jP:k=ps.length:=by omega
  subst jP;clear dU;go_wp2_with fail;go_ret2;have hP:=S.out.path;rw[List.take_length] at hP;exact⟨os',a,c,rfl,hP,S.out.own,S.out.rows,S.out.gr⟩
noncomputable def plE(l:List Clk)(ms:List Lmt)(f t:List Int):Int:=if ju l ms f t=0 then(if dS l (aG l ms) t f=none then 9 else 0) else ju l ms f t
noncomputable def plW(l:List Clk)(ms:List Lmt)(f t:List Int):List (Int×Int):=if ju l ms f t=0/\dS l (aG l ms) t f≠none then l5 l (aG l ms) (dS l (aG l ms) t) f else []
section
variable {l:List Clk} {ms:List Lmt} {f t:List Int}
theorem yI(h:ju l ms f t=0)(h2:dS l (aG l ms) t f=none):plE l ms f t=9/\plW l ms f t= []:=by unfold plE plW;rw[if_pos h,if_pos h2,if_neg (fun q=>q.2 h2)];exact⟨rfl,rfl⟩
theorem ww(h:ju l ms f t=0)(h2:dS l (aG l ms) t f≠none):plE l ms f t=0/\plW l ms f t=l5 l (aG l ms) (dS l (aG l ms) t) f:=by unfold plE plW;rw[if_pos h,if_neg h2,if_pos ⟨h,h2⟩];exact⟨rfl,rfl⟩
theorem uD(h:ju l ms f t≠0):plE l ms f t=ju l ms f t/\plW l ms f t= []:=by unfold plE plW;rw[if_neg h,if_neg (fun q=>h q.1)];exact⟨rfl,rfl⟩
theorem Nk{ps:List (Int×Int)}(hc:bA l=0)(h:∀p∈ps,xJ l p):PJ ps:=fun p hp=>by obtain⟨u,v,rfl,hu,hv⟩:=h p hp;have hl:=cg (bm hc).1;obtain⟨fp,fc⟩:=fR (bm hc).1 hu;rw[lu hu] at hv;exact⟨by unfold aK;simp only;omega,by unfold aK;simp only;omega⟩
theorem At:bA l=0->(∀p∈plW l ms f t,xJ l p)/\(plW l ms f t).length<=4096:=by
 intro hc;by_cases h0:ju l ms f t=0
 ·obtain⟨lo,fo,tO,fc,tc⟩:=sQ h0;cases hd:dS l (aG l ms) t f with
  |none=>rw[(yI h0 hd).2];simp
  |some d=>rw[(ww h0 (by rw[hd];simp)).2];have hD:=IR tO tc;have hl:=zR hD hd;refine⟨(yO hD hd).1,?_⟩;have hm:=fZ hd;have h1:=mP (l:=l) tO tc (bF l);have h2:=(bm hc).2.2.1;have h4:=Iz tO tc (bF l) _ hm;simp only at h4;omega
 rw[(uD h0).2];simp
theorem VA(h:ju l ms f t≠0):plW l ms f t= []:=(uD h).2
end
theorem PD(l:List Clk)(ms:List Lmt)(f t:List Int)(al am af at':Option Addr)(cl cm cf ct:Nat)(w:World)(h:qO w l ms f t al am af at'):
  Calls Tryz.prog 53 #[.slice al l.length cl,.slice af f.length cf,.slice at' t.length ct,.slice am ms.length cm] w (F6 w (plW l ms f t) (plE l ms f t)):=by
 by_cases h0:ju l ms f t=0
 ·obtain⟨lo,fo,tO,fc,tc⟩:=sQ h0;have bH:=h.env lo;refine(Ux l ms f t al am af at' cl cm cf ct w bH fo tO h.sf h.st).mono ?_;rintro e w' ⟨hg,_,q⟩;obtain⟨D,hD,h1,h2⟩:=q (by rw[fc,tc];rfl);obtain rfl:=GJ hD tO tc;cases hd:dS l (aG l ms) t f with
  |none=>obtain⟨x1,x2⟩:=yI h0 hd;rw[x1,x2,h1 hd];exact .none hg
  |some d=>obtain⟨x1,x2⟩:=ww h0 (by rw[hd];simp);obtain⟨v,rfl,ho⟩:=h2 d hd;have W:=(At (l:=l) (ms:=ms) (f:=f) (t:=t) bH.chk).1;rw[x2] at W;obtain⟨a,c,rfl,_,eX⟩:=Rp ho (Nk bH.chk W);rw[x1,x2];exact⟨a,c,rfl,eX,hg⟩
 have BG:=aa (Jz l ms f t al am af at' cl cm cf ct w h);obtain⟨x1,x2⟩:=uD h0;rw[x1,x2];obtain⟨E,hE⟩:∃E,ju l ms f t=E:=⟨_,rfl⟩;unfold Bv at BG;rw[hE] at BG h0 ⊢;have hb:(E !=0)=true:=by simp[h0]
 have H0:=aa h0;clear hE x1 x2 h h0;go_enter Tryz.func53,Tryz.ntmps53;go_wp2_with fail;refine BG.out.mono ?_;rintro e w1 ⟨hg,_,h7⟩;obtain rfl:=h7 H0.out;have G1:=aa hg;clear h7 hg;go_wp2_with fail;go_ret2;exact .none (by first|exact G1.out.alloc _|exact G1.out)
theorem OC{l:List Clk}{cal:List Int->Bool}{src:List Int}{V:List (List Int×Int)}(h:jc l cal src (ba V)){g:Nat}{s:List Int}(hs:ba V s=some ((g+1:Nat):Int)){t:Nbr}(ht:(nbS l cal s).find? (mC V s)=some t):
  jt (nbS l cal) (dz (ba V)) (g+1) s=(t.1,t.2.1)::jt (nbS l cal) (dz (ba V)) g t.2.2/\ba V t.2.2=some (g:Int):=by
 obtain⟨t',h1,h2,h3⟩:=h.found hs (by omega);have e:t=t':=by have:(nbS l cal s).find? (mC V s)=some t':=h1;rw[this] at ht;injection ht with ht;exact ht.symm
 subst e;have hz:dz (ba V) s=((g+1:Nat):Int):=by simp[dz,hs]
 refine⟨?_,by rw[h3];congr 1;omega⟩;simp only[jt];rw[if_pos (by omega),h1]
theorem OV(l:List Clk)(ms:List Lmt)(f t:List Int)(al am af at':Option Addr)(cl cm cf ct:Nat)(w:World)(h:qO w l ms f t al am af at')(h0:ju l ms f t=0):
  Calls Tryz.prog 13 #[.slice al l.length cl,.slice af f.length cf,.slice at' t.length ct,.slice am ms.length cm] w (BV w (plW l ms f t) (plE l ms f t)):=by
 obtain⟨lo,fo,tO,fc,tc⟩:=sQ h0;have bH:=h.env lo;have BG:=aa (xU l ms f t al am af at' cl cm cf ct w h);rw[h0] at BG;have DS:=aa (fun W (hW:Gr w W)=>ID l ms t al am at' cl cm ct W ((h.gr hW).env lo) tO (h.gr hW).st tc);have NF:=aa (fun W (hW:Gr w W)=>tR l f al af cl cf W (h.gr hW).clks (h.gr hW).sf bH.chk fo);have SF:=aa h.sf;have ST:=aa h.st;have HCL:=aa h.clks;have WK:=(At (l:=l) (ms:=ms) (f:=f) (t:=t) bH.chk).1;rw[fo.1,tO.1] at BG;rw[fo.1,tO.1];rw[tO.1] at DS;rw[fo.1] at NF;have TO:=aa tO;have FO:=aa fo;have TC:=aa tc;have CK:=aa bH.chk;have C1:=aa (fun q=>yI h0 q);have C2:=aa (fun q=>ww h0 q);have hl:=cg (bm bH.chk).1;have PR:=(bm bH.chk).2.2.1;obtain⟨N,hN⟩:∃N,bF l=N:=⟨_,rfl⟩;have EN:=aa hN;rw[hN] at DS PR;obtain⟨xE,hxE⟩:∃x,plE l ms f t=x:=⟨_,rfl⟩;obtain⟨xW,hxW⟩:∃x,plW l ms f t=x:=⟨_,rfl⟩;rw[hxE,hxW] at C1 C2;rw[hxW] at WK;rw[hxE,hxW];have WW:=aa WK;have FTL:=aa h.ft;obtain⟨i0,hi,dt,da,cN⟩:=info_parts Vu;clear h h0 lo bH fo tO fc tc hN hxE hxW WK;go_enter Tryz.func13,Tryz.ntmps13;go_wp2_with fail;refine BG.out.mono ?_;rintro e w1 ⟨rfl,bD⟩;have G1:=aa bD;clear bD BG;go_wp2_with fail;refine(DS.out w1 G1.out).mono ?_;rintro e w2 ⟨D,V,rfl,hk,hd,hv,hr,hD,bY⟩;have G2:=aa (G1.out.trans bY);have KO:=aa hk;have DO:=aa hd;have VB:=aa hv;have RD:=aa hr;have LD:Hid (w.heap.size<=D):=aa (by have:=G1.out.size;omega);have DU:Hid (ba V=dS l (aG l ms) t):=aa (GJ hd TO.out TC.out);clear hk hd hv hr hD bY DS G1;go_wp2_with fail;refine(NF.out w2 G2.out).mono ?_;rintro e w3 ⟨rfl,cG⟩;have G3:=aa (G2.out.trans cG);have R3:=aa (RD.out.gr cG);clear cG NF G2 RD;have nbs:=mO FO.out;rw[EN.out] at nbs;obtain⟨m,hm⟩:∃m:Nat,num l f=(m:Int):=⟨(num l f).toNat,by omega⟩;have HM:=aa hm;rw[hm] at nbs ⊢;have mk:m<(dA l N V).length:=by rw[xR];omega
 have c0:=R3.out.iat m mk;rw[Ek KO.out FO.out HM.out mk] at c0;have ch:=R3.out.has;have m2:(m:Int)<N:=by omega
 cases hx:ba V f with
 |none=>have e9:=aa (C1.out (by rw[<-DU.out,hx]));rw[hx] at c0;simp only[Option.getD_none] at c0;clear hx hm mk;go_wp2_with fail;go_ret2;rw[e9.out.1,e9.out.2];exact .none G3.out
 |some d=>
  have d0:0<=d/\d<=4096:=VB.out _ (fZ hx);have e0:=aa (C2.out (by rw[<-DU.out,hx];simp));rw[hx] at c0;simp only[Option.getD_some] at c0;have db:decide (d<0)=false:=dfx (by omega);obtain⟨n,hn⟩:∃n:Nat,d=n:=⟨d.toNat,by omega⟩;have HX:Hid (ba V f=some (n:Int)):=aa (by rw[hx,hn]);have n4:n<=4096:=by omega
  have PL0:Hid (jt (nbS l (aG l ms)) (dz (ba V)) n f=xW):=aa (by
   rw[e0.out.2,<-DU.out];have:dz (ba V) f=(n:Int):=by simp[dz,HX.out]
   rw[l5,this,Int.toNat_natCast])
  clear hx hm mk d0 hn;go_wp2_with fail;clear c0 ch m2 db;obtain⟨w5,rfl⟩:∃wo:World,wo=w3:=⟨_,rfl⟩;have LF:=aa FO.out.1;have LT:=aa TO.out.1
  go_loopg [12,13] n (fun g ei cI wr=>∃(s:List Int) (ws:List (Int×Int)) (aw:Option Addr) (cw:Nat),ei= .slice aw ws.length cw/\QE w w.heap.size wr cI s/\aI l s/\ba V s=some (g:Int)/\ws.length+g=n/\Hid (ws++jt (nbS l (aG l ms)) (dz (ba V)) g s=xW)/\wr.ownsRow w.heap.size 42 3 (.slice aw ws.length cw) ws.length (ws.flatMap nQ)/\Row wr D 3 (an (dA l N V))/\Gr w wr)
  case atStart=>exact⟨f,[],none,0,rfl,⟨af,cf,by rw[LF.out],.inl SF.out⟩,FO.out,HX.out,by simp,by rw[List.nil_append];exact PL0,World.ownsRow_nil _ _ _ _,R3.out,G3.out⟩
  case round=>
   clear R3 G3 PL0;obtain⟨s,ws,aw,cw,rfl,hq,hs,hx,gO,dw,aV,hr,hg⟩:=hrel;obtain⟨A,cx,rfl,eX⟩:=hq.sl hg (gm CK.out hs);have HQ:=aa hq;have HS:=aa hs;have HXs:=aa hx;have HSL:=aa eX;have OW:=aa aV;have HR:=aa hr;have HG:=aa hg;have LEN:=aa gO;have LS:=aa hs.1;have IA:Hid (Calls Tryz.prog 33 #[.slice A l.length cx,.slice at' l.length ct] wr (aN wr (.bool (decide (s=t))))):=aa (by have:=Lm s t A at' cx ct wr eX (ST.out.giI hg) (by rw[hs.1];unfold Fit;omega) (by rw[LT.out];unfold Fit;omega);rwa [hs.1,LT.out] at this)
   cases gk with
   |zero=>
    have es:s=t:=DO.out.dist.only s (by rw[hx];rfl);have PL:=aa dw.out;rw[dtx es] at IA;rw[LS.out];clear hq hs hx eX aV hr hg gO dw es;go_wp2_with fail;refine IA.out.mono ?_;rintro e w6 ⟨rfl,jU⟩;have G6:=aa (HG.out.trans jU);have O6:=aa (Gr.owns OW.out jU);clear jU;go_wp2_with fail;go_ret2;have ew:ws=xW:=(by have:=PL.out;simpa [jt] using this);subst ew;obtain⟨a,c,e,hW⟩:=PO (Nat.le_refl _) O6.out (Nk CK.out WW.out);cases e
    rw[e0.out.1];exact⟨aw,cw,rfl,hW,G6.out⟩
   |succ g=>
    have es:s≠t:=fun q=>by subst q;have:=DO.out.dist.zero;rw[hx] at this;injection this with this;omega
    rw[dfx es] at IA;have STP:=aa (fun W (hW:Gr wr W)=>Uz l (aG l ms) V t s ((g+1:Nat):Int) al A cl cx D W (bj HCL.out (hg.trans hW)) CK.out (eX.giI hW) KO.out DO.out hx (by omega) (by omega) (by rw[EN.out];exact hr.gr hW));rw[EN.out,hs.1] at STP;have PR1:=aa (fun tt (q:(nbS l (aG l ms) s).find? (mC V s)=some tt)=>OC DO.out hx q);have LEN2:ws.length<=4096:=(by omega);rw[LS.out];clear hq hs hx eX aV hr hg gO es;go_wp2_with fail;refine IA.out.mono ?_;rintro e w6 ⟨rfl,jU⟩;have H6:=aa jU;clear jU IA;go_wp2_with fail;refine(STP.out w6 H6.out).mono ?_;rintro e w7 ⟨u,v,B,cB,rfl,hfd,sF,hvk,fe,hBB,jT⟩;obtain⟨pn1,pn2⟩:=PR1.out _ hfd;have PN1:=aa pn1;have PN2:=aa pn2;have H7:=aa (H6.out.trans jT);have HROW:=aa fe;have WRB:Hid (wr.heap.size<=B):=aa (by have:=H6.out.size;omega);have SOX:Hid (aI l (s.set u (v:Int))):=aa (HS.out.set sF (by omega) hvk);have UL:=aa sF;clear pn1 pn2 hfd fe hBB jT STP PR1 sF hvk;obtain⟨W8,hW8⟩:∃W8:World,Hid (W8=(w7.alloc (.cells #[.int .i64 1,.int .i64 u,.int .i64 v] 42)).alloc (.cells #[.int .i64 1,.int .i64 u,.int .i64 v] 42)):=⟨_,aa rfl⟩;obtain⟨N8,hN8⟩:∃N8:Nat,Hid (w7.heap.size+1=N8):=⟨_,aa rfl⟩;have H8:Hid (Gr wr W8):=aa (by rw[hW8.out];exact(H7.out.alloc _).alloc _);have O8:=aa (Gr.owns OW.out H8.out);have B8:Hid (bd W8 B 3 (an (s.set u (v:Int)))):=aa (by rw[hW8.out];exact HROW.out.gr (((gfl _).alloc _).alloc _));have CC:Hid (∀j x,([.int .i64 1,.int .i64 u,.int .i64 v]:List Value)[j]?=some x->W8.cell? ((⟨N8,0,none⟩:Addr).add j)=some x):=aa (by have:=fY (Row.new (w7.alloc (.cells #[.int .i64 1,.int .i64 u,.int .i64 v] 42)) #[.int .i64 1,.int .i64 u,.int .i64 v] 42);have e:(w7.alloc (.cells #[.int .i64 1,.int .i64 u,.int .i64 v] 42)).heap.size=w7.heap.size+1:=(by simp);rw[<-hW8.out,e,hN8.out] at this;exact this)
    have ONE:Hid (∀x∈([.int .i64 1,.int .i64 u,.int .i64 v]:List Value),x.oneCell'=true):=aa (fun x hx=>by simp only[List.mem_cons,List.not_mem_nil,or_false] at hx;rcases hx with rfl|rfl|rfl<;>rfl);have BS8:Hid (w.heap.size<=W8.heap.size):=aa (by have:=HG.out.size;have:=H8.out.size;omega);go_wp2_with (first
     |(at_builtin;rw[<-hW8.out,hN8.out];refine bM _ rfl _ _ 36 rfl w.heap.size 42 i0 (.agg #[.int .i64 0,.int .i64 0,.int .i64 0]) 3 24 Tryz.underlying36 hi dt da cN rfl (by decide) (.slice aw ws.length cw) ws.length (ws.flatMap nQ) rfl O8.out (some ⟨N8,0,none⟩) 1 1 [.int .i64 1,.int .i64 u,.int .i64 v] rfl ⟨rfl,fun _=>⟨_,rfl,CC.out⟩⟩ ONE.out (by unfold maxLen;omega) (by omega) BS8.out ?_;intro v9 W9 aV aE _;obtain⟨a9,c9,rfl⟩:=be aV;have O9:=aa aV;have H9:=aa aE;clear aV aE hW8)
     |fail)
    go_roundg g
    case rel=>
     refine⟨s.set u (v:Int),ws++ [((u:Int),(v:Int))],a9,c9,by simp,⟨some ⟨B,0,none⟩,cB,by rw[SOX.out.1],.inr ⟨B,rfl,?_,?_⟩⟩,SOX.out,PN2.out,?_,?_,?_,?_,?_⟩
     ·exact B8.out.grown H9.out (aJ O8.out B8.out (by decide))
     ·have:=HG.out.size;have:=WRB.out;omega
     ·have:=LEN.out;simp;omega
     ·refine aa ?_;rw[List.append_assoc,List.singleton_append,<-PN1.out];exact dw.out
     ·have:=O9.out;simpa [nQ] using this
     ·exact(HR.out.gr H8.out).grown H9.out (aJ O8.out (HR.out.gr H8.out).s (by decide))
     exact(HG.out.trans H8.out).grown H9.out (fun k e=>(O8.out.lt k e).1)
    case measure=>omega
theorem J3(l:List Clk)(ms:List Lmt)(f t:List Int)(al am af at':Option Addr)(cl cm cf ct:Nat)(w:World)(h:qO w l ms f t al am af at'):
  Calls Tryz.prog 13 #[.slice al l.length cl,.slice af f.length cf,.slice at' t.length ct,.slice am ms.length cm] w (BV w (plW l ms f t) (plE l ms f t)):=by
 by_cases h0:ju l ms f t=0
 ·exact OV l ms f t al am af at' cl cm cf ct w h h0
 have BG:=aa (xU l ms f t al am af at' cl cm cf ct w h);obtain⟨x1,x2⟩:=uD h0;rw[x1,x2];obtain⟨E,hE⟩:∃E,ju l ms f t=E:=⟨_,rfl⟩;rw[hE] at BG h0 ⊢;have hb:(E !=0)=true:=by simp[h0]
 clear hE x1 x2 h h0;go_enter Tryz.func13,Tryz.ntmps13;go_wp2_with fail;refine BG.out.mono ?_;rintro e w1 ⟨rfl,hg⟩;have G1:=aa hg;clear hg;go_wp2_with fail;go_ret2;exact .none G1.out
def CollI{β:Type}(V:List (Int×β))(left:Lit->Bool)(zs:List Int):Prop:=zs.Nodup/\∀x,x∈zs↔((ba V x).isSome=true/\left (.int .i64 x)=false)
section
variable {β:Type} {V:List (Int×β)} {left:Lit->Bool} {zs:List Int}
end
end
end Go.Proofs.YtlmhkjdkcoiioaaGreatDoor
