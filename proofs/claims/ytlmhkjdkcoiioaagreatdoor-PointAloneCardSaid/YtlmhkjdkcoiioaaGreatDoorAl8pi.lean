/- Lemmas and contracts for the proof of PointAlone (several texts in one, printed by wip/tools/pack.py): Kg Tr Km. -/
import Derived.Test.YtlmhkjdkcoiioaaGreatDoorAl8ph
import Derived.Test.YtlmhkjdkcoiioaaGreatDoorAl8pb
import Derived.RangeFuncBox
import Derived.Test.YtlmhkjdkcoiioaaGreatDoorAl8pg
import Derived.Test.YtlmhkjdkcoiioaaGreatDoorAl8pf
import Derived.Lib.LaidTab
set_option maxRecDepth 100000
set_option maxHeartbeats 16000000
set_option linter.unusedVariables false
set_option linter.unusedSimpArgs false
set_option linter.unusedSectionVars false
namespace Go.Proofs.YtlmhkjdkcoiioaaGreatDoor
section
open Go.RowKit
open Classical
theorem NG:(Tryz.prog.info? 130).map (fun i=>(i.zero,i.size,i.bytes))=some (some (.agg #[.int .i64 0,.slice none 0 0,.slice none 0 0,.int .i64 0,.int .i64 0]),5,72):=by kernel_rfl
structure CT where
 c:Clk
 ap:Option Addr
 cp:Nat
 ac:Option Addr
 cc:Nat
def iE(t:CT):List Value:= [.int .i64 t.c.kind,.slice t.ap t.c.parents.length t.cp,.slice t.ac t.c.choices.length t.cc,.int .i64 t.c.low,.int .i64 t.c.high]
theorem Lw(t:CT):(iE t).length=5:=rfl
theorem Db(t:CT):∀u∈iE t,u.oneCell'=true:=by intro u hu;simp only[iE,List.mem_cons,List.not_mem_nil,or_false] at hu;rcases hu with rfl|rfl|rfl|rfl|rfl<;>rfl
theorem Rz(ts:List CT):∀u∈ts.flatMap iE,u.oneCell'=true:=by intro u hu;obtain⟨t,_,h⟩:=List.mem_flatMap.1 hu;exact Db t u h
theorem xe(ts:List CT):(ts.flatMap iE).length=ts.length*5:=Jf iE 5 Lw ts
def clks(ts:List CT):List Clk:=ts.map (·.c)
theorem ez(ts:List CT):(clks ts).length=ts.length:=by simp[clks]
theorem Hp(ts:List CT)(t:CT):clks (ts++ [t])=clks ts++ [t.c]:=by simp[clks]
def mg(base:Nat)(w:World)(t:CT):Prop:=
 bt base w 3 (an t.c.parents) t.ap/\t.c.parents.length<=t.cp/\bt base w 3 (an t.c.choices) t.ac/\t.c.choices.length<=t.cc/\t.c.parents.length<=8/\t.c.choices.length<=8/\
  aK t.c.kind/\aK t.c.low/\aK t.c.high/\(∀x∈t.c.parents,aK x)/\(∀x∈t.c.choices,aK x)
def dF(base:Nat)(w:World)(ts:List CT):Prop:=∀t∈ts,mg base w t
theorem mg.mv{b len base:Nat}{w w1:World}{t:CT}(h:mg base w t)(m:Mv b len w w1)(hb:b<base):mg base w1 t:=
 ⟨m.own1 h.1 hb,h.2.1,m.own1 h.2.2.1 hb,h.2.2.2⟩
theorem mg.gr{base:Nat}{w w1:World}{t:CT}(h:mg base w t)(g:Gr w w1):mg base w1 t:=⟨h.1.gr g,h.2.1,h.2.2.1.gr g,h.2.2.2⟩
theorem mg.grown{base:Nat}{w w1:World}{row:Option Nat}{t:CT}(h:mg base w t)(hg:w.grownBy w1 row)(bS:∀B vs,bd w B 3 vs->some B≠row):mg base w1 t:=
 ⟨h.1.grown hg (fun B hB=>bS B _ hB),h.2.1,h.2.2.1.grown hg (fun B hB=>bS B _ hB),h.2.2.2⟩
theorem dF.mv{b len base:Nat}{w w1:World}{ts:List CT}(h:dF base w ts)(m:Mv b len w w1)(hb:b<base):dF base w1 ts:=fun t ht=>(h t ht).mv m hb
theorem dF.gr{base:Nat}{w w1:World}{ts:List CT}(h:dF base w ts)(g:Gr w w1):dF base w1 ts:=fun t ht=>(h t ht).gr g
theorem dF.grown{base:Nat}{w w1:World}{row:Option Nat}{ts:List CT}(h:dF base w ts)(hg:w.grownBy w1 row)(bS:∀B vs,bd w B 3 vs->some B≠row):dF base w1 ts:=fun t ht=>(h t ht).grown hg bS
theorem dF.snoc{base:Nat}{w:World}{ts:List CT}{t:CT}(h:dF base w ts)(k:mg base w t):dF base w (ts++ [t]):=by
 intro x hx;rcases List.mem_append.1 hx with q|q
 ·exact h x q
 rw[List.mem_singleton.1 q];exact k
theorem Wr{w:World}{g o base:Nat}{t:CT}(key:∀j,j<5->w.cell? ⟨g,o+j,none⟩=(iE t)[j]?)(h:mg base w t):cY w g o t.c:=by obtain⟨h1,h2,h3,h4,h5,h6,h7,h8,h9,Xy,YZ⟩:=h;refine⟨⟨key 0 (by omega),h7⟩,⟨t.ap,t.cp,key 1 (by omega),h2,by unfold Fit;omega,h1.slI fun j hj=>Xy _ (List.getElem_mem hj)⟩,⟨t.ac,t.cc,key 2 (by omega),h4,by unfold Fit;omega,h3.slI fun j hj=>YZ _ (List.getElem_mem hj)⟩,⟨key 3 (by omega),h8⟩,⟨key 4 (by omega),h9⟩⟩
theorem yi{base:Nat}{w:World}{v:Value}{ts:List CT}(h:w.ownsRow base 130 5 v ts.length (ts.flatMap iE)){base':Nat}(hr:dF base' w ts)(hn:0<ts.length):
  ∃a c,v= .slice a ts.length c/\ts.length<=c/\ag 5 cY w a (clks ts):=by
 obtain⟨g,cap,rfl,hc,hb,lG⟩:=fM h hn;refine⟨_,cap,rfl,hc,fun k hk=>⟨g,0,rfl,?_⟩⟩;have jP:k<ts.length:=by simpa [clks] using hk
 have hs:(clks ts)[k]=ts[k].c:=by simp[clks]
 rw[hs];refine Wr (t:=ts[k]) (fun j hj=>?_) (hr _ (List.getElem_mem jP));rw[<-nJ iE 5 Lw ts k j jP hj,Nat.zero_add];exact lG _ (by omega)
def Rv(b len n most:Nat)(w:World)(e:Ending)(w':World):Prop:=
 ∃ts v,e= .returned v/\w'.ownsRow w.heap.size 130 5 v ts.length (ts.flatMap iE)/\dF w.heap.size w' ts/\bA (clks ts)=0/\1<=ts.length/\ts.length<=n/\bF (clks ts)<=most/\Mv b len w w'
theorem Ps(x lo hi:Int)(h0:1<=x)(h1:x<=4000000000)(l0:0<=lo)(l1:lo<=hi)(l2:hi<=4000000000):bA [⟨1,[],[x],lo,hi⟩]=0:=by
 refine Bt ?_ ?_ (by simp[bF]) (by simp[cb,fu,gF,jN,ir])
 ·rintro(q|⟨k,hk,q⟩)
  ·simp at q
  have:k=0:=by simpa using hk
  subst this;simp[ym] at q
 intro k hk;have:k=0:=by simpa using hk
 subst this;exact⟨by simp,fun j hj=>absurd hj (by simp),.inl ⟨rfl,rfl,rfl,h0,h1⟩,l0,l1,l2⟩
theorem Ce{P:Program}(w:World){ops:Array Oper}{o:Oper}{a:Act}{K:Act->World->Prop}{Q:Exit->Act->World->Prop}{E:Prop}
  (jv:o.guard=none) (s x:Operand) (t:TypeId) (yd:o.op=Op.call {callee:=Callee.builtin Builtin.append,args:= #[s,x],argTypes:= #[t,t]})
  (e:TypeId) (i:TypeInfo) (z:Value) (size bytes:Nat) (h1:P.underlying t=some (.slice e)) (h2:P.info? e=some i) (h3:i.zero=some z) (h4:i.size=size) (h5:i.bytes=bytes) (h6:z.cells.size=size) (h7:0<size)
  (b:Addr) (n cap:Nat) (olds:List Value) (hs:a.eval s= .slice (some b) n cap) (vU:olds.length=n*size) (holds:∀j u,olds[j]?=some u->w.cell? (b.add j)=some u)
  (ad:Addr) (m c:Nat) (dZ:List Value) (hx:a.eval x= .slice (some ad) m c) (hn:dZ.length=m*size) (hc:∀j u,dZ[j]?=some u->w.cell? (ad.add j)=some u) (h1c:∀u∈dZ,u.oneCell'=true)
  (hfull:cap<n+m) (b1:n+m<=maxLen) (b2:(n+m)*bytes<=140737488355328)
  (hK:∀v' w',w'.ownsRow w.heap.size e size v' (n+m) (olds++dZ)->w.grownBy w' none->K (a.put o.dst v') w'):
  if Region.wanted o (yielded ops a.tmps)=true then Oper.wp P o a w K Q else E:=by
 rw[if_pos (by simp[Region.wanted,jv])];obtain⟨v',w',wk,r1,r2⟩:=run_append_arg_grows (P:=P) w t o.type e i z size bytes h1 h2 h3 h4 h5 h6 h7 b n cap olds vU holds ad m c dZ hn hc hfull b1 b2;unfold Oper.wp;simp[execOp,yd,resolve,invoke,builtin,hs,hx,wk,Result.andThen];exact hK v' w' r1 r2
theorem SV{w:World}{base e size n:Nat}{a:Option Addr}{c:Nat}{xs:List Value}(h:w.ownsRow base e size (.slice a n c) n xs)(hn:0<n):∃g,a=some ⟨g,0,none⟩/\∀j u,xs[j]?=some u->w.cell? ((⟨g,0,none⟩:Addr).add j)=some u:=by
 obtain⟨g,cap,e',_,_,hc⟩:=fM h hn;cases e'
 refine⟨g,rfl,fun j u hu=>?_⟩;obtain⟨hj,_⟩:=List.getElem?_eq_some_iff.1 hu;have hl:=h.1;rw[Addr.add_lit,Nat.zero_add,hc j (by omega),hu]
theorem fY{w:World}{B T:Nat}{xs:List Value}(h:Row w B T xs):∀j u,xs[j]?=some u->w.cell? ((⟨B,0,none⟩:Addr).add j)=some u:=by intro j u hu;obtain⟨hj,e⟩:=List.getElem?_eq_some_iff.1 hu;rw[Addr.add_lit,Nat.zero_add,h.cell j hj,e]
def ck8F(wr:World)(ts:List CT)(t:CT)(ao:Option Addr)(cap Hu:Nat)(oO ns nS oZ pE mK pW ry:Value)(d:Array Bool)(w:World):Prop:=
 Gr wr w/\(d.getD 0 false=true->∃B,oO= .slice (some ⟨B,0,none⟩) 0 0)/\
 (d.getD 1 false=true->ns= .slice ao ts.length cap)/\
 (d.getD 2 false=true->(d.getD 5 false=false->w.ownsRow wr.heap.size 130 5 nS ts.length (ts.flatMap iE)))/\
 (d.getD 3 false=true->oZ= .agg #[.int .i64 t.c.kind,.slice t.ap t.c.parents.length t.cp,.slice t.ac t.c.choices.length t.cc,.int .i64 t.c.low,.int .i64 t.c.high])/\
 (d.getD 4 false=true->∃B,pE= .slice (some ⟨B,0,none⟩) 1 1/\(d.getD 5 false=false->Row w B 130 (iE t)))/\
 (d.getD 5 false=true->(d.getD 2 false=true/\d.getD 4 false=true)/\w.ownsRow wr.heap.size 130 5 mK (ts.length+1) ((ts++ [t]).flatMap iE))/\
 (d.getD 6 false=true->pW= .int .i64 (bA (clks (ts++ [t]))))/\
 (d.getD 7 false=true->ry= .bool (bA (clks (ts++ [t])) !=0))
def sH(ts:List CT)(ao:Option Addr)(cap Hu:Nat)(oO ns nS oZ pE mK pW ry s0 s1 s2 s3 s4 s5 s6 s8 s9 dR ei cI cJ dc dg dk di cK de dQ dI eG dB dD dv dC du eH eQ eW eO eI ec eg eY eT eV eF eN fG fH fJ fL:Value):Act:={tmps:= #[s0,s1,s2,s3,s4,s5,s6,.slice ao ts.length cap,s8,s9,.pointer (some ⟨Hu,0,none⟩),dR,ei,cI,cJ,dc,dg,dk,di,cK,de,dQ,dI,eG,dB,dD,dv,dC,du,eH,eQ,eW,eO,eI,ec,oO,ns,nS,oZ,pE,mK,pW,ry,eg,eY,eT,eV,eF,eN,fG,fH,fJ,fL],defers:= []}
theorem ck8{Q:Exit->Act->World->Prop}{wr:World}{ts:List CT}{t:CT}{ao:Option Addr}{cap Hu:Nat}{s0 s1 s2 s3 s4 s5 s6 s8 s9 dR ei cI cJ dc dg dk di cK de dQ dI eG dB dD dv dC du eH eQ eW eO eI ec dP dL dE dJ dK dO dM dN eg eY eT eV eF eN fG fH fJ fL:Value}{base base2:Nat}(h:wr.ownsRow base2 130 5 (.slice ao ts.length cap) ts.length (ts.flatMap iE))(hc:dF base wr ts)(ht:mg base wr t)(RB:Row wr Hu 130 [.int .i64 t.c.kind,.slice t.ap t.c.parents.length t.cp,.slice t.ac t.c.choices.length t.cc,.int .i64 t.c.low,.int .i64 t.c.high])(gc:0<ts.length)(hn2:ts.length<=100)
  (h':∀oO ns nS oZ pE mK pW wx,Gr wr wx->Q .normal (sH ts ao cap Hu oO ns nS oZ pE mK pW (.bool (bA (clks (ts++ [t])) !=0)) s0 s1 s2 s3 s4 s5 s6 s8 s9 dR ei cI cJ dc dg dk di cK de dQ dI eG dB dD dv dC du eH eQ eW eO eI ec eg eY eT eV eF eN fG fH fJ fL) wx):
  (Code.region 8 (fr 8 Tryz.f45) true).wp Tryz.prog Q {tmps:= #[s0,s1,s2,s3,s4,s5,s6,.slice ao ts.length cap,s8,s9,.pointer (some ⟨Hu,0,none⟩),dR,ei,cI,cJ,dc,dg,dk,di,cK,de,dQ,dI,eG,dB,dD,dv,dC,du,eH,eQ,eW,eO,eI,ec,dP,dL,dE,dJ,dK,dO,dM,dN,eg,eY,eT,eV,eF,eN,fG,fH,fJ,fL],defers:= []} wr:=by
 have H:=PLift.up h;have HC:=PLift.up hc;have HT:=PLift.up ht;clear h hc ht;obtain⟨j0,hj,kN,ka,lg⟩:=info_parts NG;simp only[fr,Tryz.f45,gM,Option.bind_some,Option.getD_some,Nat.beq,cond_true,cond_false];refine dW (fun done a w=>∃oO ns nS oZ pE mK pW ry,a=sH ts ao cap Hu oO ns nS oZ pE mK pW ry s0 s1 s2 s3 s4 s5 s6 s8 s9 dR ei cI cJ dc dg dk di cK de dQ dI eG dB dD dv dC du eH eQ eW eO eI ec eg eY eT eV eF eN fG fH fJ fL/\ck8F wr ts t ao cap Hu oO ns nS oZ pE mK pW ry done w) (by kernel_rfl) (by kernel_rfl) ?_ ⟨?_,?_,?_,?_,?_,?_,?_,?_,trivial⟩ ?_
 ·exact⟨dP,dL,dE,dJ,dK,dO,dM,dN,rfl,(gfl _).drew,fun q=>absurd q (by decide),fun q=>absurd q (by decide),fun q=>absurd q (by decide),fun q=>absurd q (by decide),fun q=>absurd q (by decide),fun q=>absurd q (by decide),fun q=>absurd q (by decide),fun q=>absurd q (by decide)⟩
 rotate_right
 ·rintro done a w aH ⟨oO,ns,nS,oZ,pE,mK,pW,ry,rfl,gw,f0,f1,f2,f3,f4,f5,f6,f7⟩;obtain rfl:=f7 (aH 7 (by decide));exact h' _ _ _ _ _ _ _ w gw
 all_goals(rintro done a w iB fD aO ⟨oO,ns,nS,oZ,pE,mK,pW,ry,rfl,gw,f0,f1,f2,f3,f4,f5,f6,f7⟩ K hK;have hn:=nd fD;have HK:=PLift.up hK;clear hK)
 ·simp only[sH];go_simp;have gg:Gr w (w.alloc (.cells #[] 130)):=(gfl _).alloc _;refine HK.down _ _ ⟨_,_,_,_,_,_,_,_,rfl,gw.trans gg,?_,kp f1,fun q q2=>Gr.owns (f2 (aj q (by decide)) (by rw[getD_set_ne false (by decide)] at q2;exact q2)) gg,kp f3,ku f4,ku f5,kp f6,kp f7⟩;exact fun _=>⟨_,rfl⟩
 ·simp only[sH];go_simp;have gg:=gfl w;refine HK.down _ _ ⟨_,_,_,_,_,_,_,_,rfl,gw,kp f0,fun _=>rfl,fun q q2=>Gr.owns (f2 (aj q (by decide)) (by rw[getD_set_ne false (by decide)] at q2;exact q2)) gg,kp f3,ku f4,ku f5,kp f6,kp f7⟩
 ·have d0:=aO 0 (by kernel_rfl);have d1:=aO 1 (by kernel_rfl);obtain rfl:=f1 d1;obtain⟨B0,rfl⟩:=f0 d0;obtain⟨g,rfl,lV⟩:=SV (Gr.owns H.down gw) gc;refine Ce _ rfl _ _ 25 rfl 130 j0 (.agg #[.int .i64 0,.slice none 0 0,.slice none 0 0,.int .i64 0,.int .i64 0]) 5 72 Tryz.underlying25 hj kN ka lg rfl (by decide) ⟨B0,0,none⟩ 0 0 [] (by simp[Act.eval,sH]) rfl (by simp) ⟨g,0,none⟩ ts.length cap (ts.flatMap iE) (by simp[Act.eval,sH]) (xe ts) lV (Rz ts) (by omega) (by unfold maxLen;omega) (by omega) ?_;intro v w2 aV aE;rw[Nat.zero_add,List.nil_append] at aV;have gg:Gr w w2:=Gr.grown (gfl w) aE (fun k e=>by cases e);have OW:=PLift.up (jS aV gw.size);refine HK.down _ _ ⟨_,_,_,_,_,_,_,_,rfl,gw.trans gg,kp f0,kp f1,?_,kp f3,ku f4,fun q=>absurd (f5 (aj q (by decide))).1.1 hn,kp f6,kp f7⟩;exact fun _ _=>OW.down
 ·have r:=RB.gr gw;have c0:=r.cell 0 (by simp);have c1:=r.cell 1 (by simp);have c2:=r.cell 2 (by simp);have c3:=r.cell 3 (by simp);have c4:=r.cell 4 (by simp);have ch:=r.has;simp only[List.getElem_cons_zero,List.getElem_cons_succ] at c0 c1 c2 c3 c4;clear r;simp only[sH];go_simp;have gg:=gfl w;refine HK.down _ _ ⟨_,_,_,_,_,_,_,_,rfl,gw,kp f0,kp f1,fun q q2=>Gr.owns (f2 (aj q (by decide)) (by rw[getD_set_ne false (by decide)] at q2;exact q2)) gg,fun _=>rfl,ku f4,ku f5,kp f6,kp f7⟩
 ·have d3:=aO 3 (by kernel_rfl);obtain rfl:=f3 d3;clear d3;simp only[sH];go_simp;have gg:Gr w (w.alloc (.cells #[.int .i64 t.c.kind,.slice t.ap t.c.parents.length t.cp,.slice t.ac t.c.choices.length t.cc,.int .i64 t.c.low,.int .i64 t.c.high] 130)):=(gfl _).alloc _;refine HK.down _ _ ⟨_,_,_,_,_,_,_,_,rfl,gw.trans gg,kp f0,kp f1,fun q q2=>Gr.owns (f2 (aj q (by decide)) (by rw[getD_set_ne false (by decide)] at q2;exact q2)) gg,kp f3,?_,fun q=>absurd (f5 (aj q (by decide))).1.2 hn,kp f6,kp f7⟩;exact fun _=>⟨_,rfl,fun _=>Row.new w _ _⟩
 ·have d2:=aO 2 (by kernel_rfl);have d4:=aO 4 (by kernel_rfl);have n5:=getD_both fD;obtain⟨B,rfl,r3⟩:=f4 d4;have o1:=f2 d2 n5;refine vx _ rfl _ _ 25 rfl wr.heap.size 130 j0 (.agg #[.int .i64 0,.slice none 0 0,.slice none 0 0,.int .i64 0,.int .i64 0]) 5 72 Tryz.underlying25 hj kN ka lg rfl (by decide) nS ts.length (ts.flatMap iE) (by simp[Act.eval,sH]) o1 (some ⟨B,0,none⟩) 1 1 (iE t) (by simp[Act.eval,sH]) ⟨rfl,fun _=>⟨_,rfl,fY (r3 n5)⟩⟩ (Db t) (by unfold maxLen;omega) (by omega) gw.size ?_;intro v w2 aV aE _;refine HK.down _ _ ⟨_,_,_,_,_,_,_,_,rfl,gw.grown aE (fun k e=>(nj o1 k e).1),kp f0,kp f1,fun _ q=>absurd q (by rw[fi (by rw[iB];decide)];decide),kp f3,fun _=>⟨B,rfl,fun q=>absurd q (by rw[fi (by rw[iB];decide)];decide)⟩,?_,kp f6,kp f7⟩;exact fun _=>⟨⟨getD_set_true d2,getD_set_true d4⟩,by rw[List.flatMap_append];simpa using aV⟩
 ·have d5:=aO 5 (by kernel_rfl);have o5:w.ownsRow wr.heap.size 130 5 mK (ts++ [t]).length ((ts++ [t]).flatMap iE):=by rw[List.length_append];exact(f5 d5).2
  have hcr:dF base w (ts++ [t]):=(HC.down.gr gw).snoc (HT.down.gr gw);obtain⟨a5,c5,e5,hc5,sl5⟩:=yi o5 hcr (by simp);obtain rfl:mK= .slice a5 (ts.length+1) c5:=by rw[e5,List.length_append];rfl
  have rc:=fun W hS=>j4 (clks (ts++ [t])) a5 c5 W hS (by rw[ez];unfold Fit;simp;omega);simp only[ez,List.length_append,List.length_cons,List.length_nil,Nat.zero_add] at rc;have RC:=PLift.up rc;have SL5:=PLift.up sl5;clear rc sl5 o5 hcr e5;simp only[sH];go_simp;refine(RC.down _ SL5.down).mono ?_;rintro e w2 ⟨rfl,hg⟩;have gg:Gr w w2:=hg;clear hg
  (try go_simp)
  refine HK.down _ _ ⟨_,_,_,_,_,_,_,_,rfl,gw.trans gg,kp f0,kp f1,fun q q2=>Gr.owns (f2 (aj q (by decide)) (by rw[getD_set_ne false (by decide)] at q2;exact q2)) gg,kp f3,ku f4,ku f5,fun _=>rfl,kp f7⟩
 have d6:=aO 6 (by kernel_rfl);obtain rfl:=f6 d6;clear d6;simp only[sH];go_simp;have gg:=gfl w;refine HK.down _ _ ⟨_,_,_,_,_,_,_,_,rfl,gw,kp f0,kp f1,fun q q2=>Gr.owns (f2 (aj q (by decide)) (by rw[getD_set_ne false (by decide)] at q2;exact q2)) gg,kp f3,ku f4,ku f5,kp f6,fun _=>rfl⟩
theorem To(w:World)(ts:List CT)(arr:Array Value)(ha:arr.toList=ts.flatMap iE)(base B n:Nat)(hn:ts.length=n)(hB:w.heap.size=B)(hb:base<=B)(hm:n<=1000000):
  (w.alloc (.cells arr 130)).ownsRow base 130 5 (.slice (some ⟨B,0,none⟩) n n) n (ts.flatMap iE):=by
 subst hB hn;have hl:arr.size=ts.length*5:=by rw[<-Array.length_toList,ha,xe]
 refine⟨by rw[xe],.inr ⟨w.heap.size,ts.length,arr,rfl,hb,heap_alloc_new w _,Nat.le_refl _,by unfold maxLen;omega,hl,?_⟩⟩;rw[ha,List.take_of_length_le (by rw[xe];exact Nat.le_refl _)]
theorem PM(w:World)(b len n most:Nat)(ht:Tp w b len)(hn:1<=n)(gc:n<=16)(hm:1<=most)(me:most<=4096):
  Calls Tryz.prog 45 #[.pointer (some ⟨b,0,none⟩),.int .i64 n,.int .i64 most] w (Rv b len n most w):=by
 have TT:=aa ht;have hb:=ht.has;have HB:=aa hb;clear ht hb;obtain⟨i0,hi,dt,da,cN⟩:=info_parts eS;obtain⟨j0,hj,kN,ka,lg⟩:=info_parts NG;go_enter Tryz.func45,Tryz.ntmps45;go_wp2_with fail;refine(dG w b len TT.out _ rfl _ 4 [12,24,100,24000000] (gv 1 24000000) rfl rfl (by omega) (by omega) (by simp[gv])).mono ?_;rintro e w1 ⟨x,rfl,⟨x0,x1⟩,hm1'⟩;have M1:=aa hm1';clear hm1';go_wp2_with fail;obtain⟨W2,hW2⟩:∃W2:World,Hid (W2=(w1.alloc (.cells #[.int .i64 x] 3)).alloc (.cells #[.int .i64 1,.slice none 0 0,.slice (some ⟨w1.heap.size,0,none⟩) 1 1,.int .i64 0,.int .i64 0] 130)):=⟨_,aa rfl⟩;rw[<-hW2.out];have t0:Hid (mg w.heap.size W2 ⟨⟨1,[],[x],0,0⟩,none,0,some ⟨w1.heap.size,0,none⟩,1⟩):=aa (by
  rw[hW2.out];refine⟨.inl rfl,Nat.le_refl _,((uI w1 [x] #[.int .i64 x] rfl 3 w.heap.size w1.heap.size rfl M1.out.size).gr ((gfl _).alloc _)),Nat.le_refl _,by simp,by simp,by unfold aK;simp,by unfold aK;simp,by unfold aK;simp,by simp,?_⟩;intro y hy;have:y=x:=by simpa using hy
  subst this;unfold aK;omega)
 have o0:Hid (W2.ownsRow w.heap.size 130 5 (.slice (some ⟨w1.heap.size+1,0,none⟩) 1 1) 1 ([(⟨⟨1,[],[x],0,0⟩,none,0,some ⟨w1.heap.size,0,none⟩,1⟩:CT)].flatMap iE)):=aa (by rw[hW2.out];exact To _ [⟨⟨1,[],[x],0,0⟩,none,0,some ⟨w1.heap.size,0,none⟩,1⟩] _ rfl _ _ 1 rfl (by simp) (by have:=M1.out.size;omega) (by omega))
 have M2:Hid (Mv b len w W2):=aa (by rw[hW2.out];exact(M1.out.alloc _).alloc _);have c0:=aa (Ps x 0 0 (by omega) (by omega) (by omega) (by omega) (by omega));obtain⟨B0,hB0⟩:∃B0:Nat,Hid (w1.heap.size=B0):=⟨_,aa rfl⟩;rw[hB0.out] at t0 o0;rw[hB0.out];clear hW2 M1 hB0;refine(k7 W2 b len n (M2.out.tp TT.out) (by omega) (by omega)).mono ?_;rintro e w3 ⟨m0,rfl,⟨Vt,XR⟩,iz⟩;obtain⟨m0,rfl⟩:=Int.eq_ofNat_of_zero_le Vt;have T3:=aa (t0.out.mv iz HB.out);have O3:=aa (iz.owns o0.out HB.out);have M3:=aa (M2.out.trans HB.out iz);clear iz t0 o0 M2;go_wp2_with fail;go_loopw [7,8,9] (fun s7 s8 s9 wr=>∃(ts:List CT) (m a c:_),s7= .slice a ts.length c/\s8= .int .i64 (bF (clks ts))/\s9= .int .i64 (m:Nat)/\wr.ownsRow w.heap.size 130 5 (.slice a ts.length c) ts.length (ts.flatMap iE)/\dF w.heap.size wr ts/\bA (clks ts)=0/\1<=ts.length/\ts.length+m<=n/\bF (clks ts)<=most/\Mv b len w wr) (fun _ _ s9 _=>(intOf s9).toNat);case atStart=>exact⟨[⟨⟨1,[],[x],0,0⟩,none,0,some ⟨B0,0,none⟩,1⟩],m0,some ⟨B0+1,0,none⟩,1,rfl,rfl,rfl,O3.out,fun t ht=>by rw[List.mem_singleton.1 ht];exact T3.out,c0.out,by simp,by simp;omega,by simp[clks,bF];omega,M3.out⟩
 case round=>
  clear T3 O3 M3 c0;obtain⟨ts,m,a,c,rfl,rfl,rfl,ho,hr,rE,tC,mI,Cl,hm⟩:=hrel;have HO:=aa ho;have HR:=aa hr;have CK:=aa rE;have HM:=aa hm;have bw:Hid (b<wr.heap.size):=aa (hm.tp TT.out).has;have PP:=aa Cl;obtain⟨P,hP⟩:∃P:Nat,Hid (bF (clks ts)=P):=⟨_,aa rfl⟩;rw[hP.out] at Cl ⊢;clear ho hr rE hm;obtain⟨wo,rfl⟩:∃wo:World,wo=wr:=⟨_,rfl⟩;by_cases jx:0<m
  ·have g0:(0:Int)<m:=by omega
   obtain⟨m',rfl⟩:∃m',m=m'+1:=⟨m-1,by omega⟩;go_wp2_with fail;refine(V7 wo b len ts.length (HM.out.tp TT.out) (by omega) (by omega)).mono ?_;rintro e w4 ⟨kd,ps,cs,lo,lJ,ap,cp,ac,cc,rfl,Af,⟨kd0,kd1⟩,⟨lo0,lo1⟩,⟨AN,hi1⟩,sw,hpc,lV,hcc,qz⟩;obtain⟨Ih,DP,hl3,hl4,hl5⟩:=Af;have CR:Hid (mg w.heap.size w4 ⟨⟨kd,ps,cs,lo,lJ⟩,ap,cp,ac,cc⟩):=aa ⟨sw.low HM.out.size,hpc,lV.low HM.out.size,hcc,by show ps.length<=8;omega,by show cs.length<=8;omega,by show aK kd;unfold aK;omega,by show aK lo;unfold aK;omega,by show aK lJ;unfold aK;omega,fun y hy=>by have:=hl4 y hy;unfold lP at this;unfold aK;omega,fun y hy=>by have:=hl5 y hy;unfold lP at this;unfold aK;omega⟩;have O4:=aa (qz.owns HO.out HB.out);have R4:=aa (HR.out.mv qz HB.out);have M4:=aa (HM.out.trans HB.out qz);clear sw lV qz HO HR HM hl4 hl5;have pl0:0<=(P:Int)*cs.length:=Int.mul_nonneg (by omega) (by omega);have pl1:(P:Int)*cs.length<=4096*4:=Int.mul_le_mul (by omega) (by omega) (by omega) (by omega);by_cases uZ:(most:Int)<(P:Int)*cs.length
   ·go_wp2_with fail;go_roundw;case rel=>exact⟨ts,m',a,c,rfl,by rw[hP.out],by go_num,O4.out.alloc _,R4.out.gr ((gfl _).alloc _),CK.out,tC,by omega,by rw[hP.out];exact Cl,M4.out.alloc _⟩
    case measure=>simp[intOf]
   go_upto_region 8 with(fail);obtain⟨W5,hW5⟩:∃W5:World,Hid (W5=w4.alloc (.cells #[.int .i64 kd,.slice ap ps.length cp,.slice ac cs.length cc,.int .i64 lo,.int .i64 lJ] 130)):=⟨_,aa rfl⟩;rw[<-hW5.out];obtain⟨B5,hB5⟩:∃B5:Nat,Hid (w4.heap.size=B5):=⟨_,aa rfl⟩;rw[hB5.out];have RB:Hid (Row W5 B5 130 [.int .i64 kd,.slice ap ps.length cp,.slice ac cs.length cc,.int .i64 lo,.int .i64 lJ]):=aa (by rw[hW5.out,<-hB5.out];exact Row.new w4 _ _);have O5:=aa (show W5.ownsRow w.heap.size 130 5 (.slice a ts.length c) ts.length (ts.flatMap iE) by rw[hW5.out];exact O4.out.alloc _);have R5:=aa (show dF w.heap.size W5 ts by rw[hW5.out];exact R4.out.gr ((gfl _).alloc _));have C5:=aa (show mg w.heap.size W5 (⟨⟨kd,ps,cs,lo,lJ⟩,ap,cp,ac,cc⟩:CT) by rw[hW5.out];exact CR.out.gr ((gfl _).alloc _));have M5:=aa (show Mv b len w W5 by rw[hW5.out];exact M4.out.alloc _);clear hW5 hB5 O4 R4 CR M4;refine m6 (c:=Code.region 8 (fr 8 Tryz.f45) true) (by kernel_rfl) (ck8 (wr:=W5) (ts:=ts) (t:=(⟨⟨kd,ps,cs,lo,lJ⟩,ap,cp,ac,cc⟩:CT)) (base:=w.heap.size) (base2:=w.heap.size) O5.out R5.out C5.out RB.out (by omega) (by omega) ?_);intro oO ns nS oZ pE mK pW wx tX;simp only[sH];have RB2:=aa (RB.out.gr tX);have O6:=aa (Gr.owns O5.out tX);have R6:=aa (R5.out.gr tX);have C6:=aa (C5.out.gr tX);have M6:=aa (M5.out.gr tX);clear tX RB O5 R5 C5 M5;by_cases hq:bA (clks (ts++ [(⟨⟨kd,ps,cs,lo,lJ⟩,ap,cp,ac,cc⟩:CT)]))=0
   ·have hb:(bA (clks (ts++ [(⟨⟨kd,ps,cs,lo,lJ⟩,ap,cp,ac,cc⟩:CT)])) !=0)=false:=(by simp[hq]);rw[hb];have HQ:=aa hq;clear hb hq;have r0:=RB2.out.cell 0 (by simp);have r1:=RB2.out.cell 1 (by simp);have r2:=RB2.out.cell 2 (by simp);have r3:=RB2.out.cell 3 (by simp);have r4:=RB2.out.cell 4 (by simp);have rh:=RB2.out.has;simp only[List.getElem_cons_zero,List.getElem_cons_succ] at r0 r1 r2 r3 r4;have hbp:P*cs.length<=most:=by
     have:((P*cs.length:Nat):Int)<=most:=(by rw[Int.natCast_mul];omega);omega
    go_wp2_with (at_builtin;refine wpList_append_own _ rfl _ _ 25 rfl w.heap.size 130 j0 (.agg #[.int .i64 0,.slice none 0 0,.slice none 0 0,.int .i64 0,.int .i64 0]) 5 72 Tryz.underlying25 hj kN ka lg rfl (by decide) (.slice a ts.length c) ts.length (ts.flatMap iE) rfl (O6.out.alloc _) ⟨wx.heap.size,0,none⟩ 1 1 (iE (⟨⟨kd,ps,cs,lo,lJ⟩,ap,cp,ac,cc⟩:CT)) rfl rfl (fY (Row.new wx _ 130)) (Db _) (by unfold maxLen;omega) (by omega) (by have:=M6.out.size;simp;omega) ?_;intro v' wz bI aE eJ;have OZ:=aa bI;have GZ:=aa aE;clear bI aE eJ;obtain⟨g',cap',rfl⟩:=ownsRow_succ OZ.out);go_roundw;case rel=>
     refine⟨ts++ [(⟨⟨kd,ps,cs,lo,lJ⟩,ap,cp,ac,cc⟩:CT)],m',some ⟨g',0,none⟩,cap',by rw[List.length_append];rfl,?_,by go_num,?_,?_,HQ.out,by simp,by simp;omega,?_,?_⟩
     ·rw[Hp,zq,hP.out,Int.natCast_mul]
     ·have:=OZ.out;rw[List.length_append,List.flatMap_append];simpa using this
     ·refine dF.grown ((R6.out.snoc C6.out).gr ((gfl _).alloc _)) GZ.out (fun B vs hB=>aJ (O6.out.alloc _) hB (by decide))
     ·rw[Hp,zq,hP.out];exact hbp
     exact(M6.out.alloc _).grown GZ.out (fun k e=>(O6.out.lt k e).1)
    case measure=>simp[intOf]
   have hb:(bA (clks (ts++ [(⟨⟨kd,ps,cs,lo,lJ⟩,ap,cp,ac,cc⟩:CT)])) !=0)=true:=by simp[hq]
   rw[hb];clear hb hq;go_wp2_with fail;go_roundw;case rel=>exact⟨ts,m',a,c,rfl,by rw[hP.out],by go_num,O6.out,R6.out,CK.out,tC,by omega,by rw[hP.out];exact Cl,M6.out⟩
   case measure=>simp[intOf]
  obtain rfl:m=0:=by omega
  go_wp2_with fail;go_ret;exact⟨ts,_,rfl,HO.out,HR.out,CK.out,tC,by omega,by rw[hP.out];exact Cl,HM.out⟩
def UB(b len:Nat)(w:World)(l:List Clk)(e:Ending)(w':World):Prop:=
 ∃xs v,e= .returned v/\w'.ownsRow w.heap.size 3 1 v l.length (an xs)/\aI l xs/\Mv b len w w'
theorem Qv{l:List Clk}{k:Nat}{xs:List Int}{x:Int}(h:aI (l.take k) xs)(hk:k<l.length)(h0:0<=x)(h1:x<l[k].choices.length):aI (l.take (k+1)) (xs++ [x]):=by
 obtain⟨h2,h3⟩:=h;have hl:(l.take k).length=k:=by simp;omega
 refine⟨by rw[List.length_append,h2];simp;omega,fun j hj qH=>?_⟩;have hjk:j<k+1:=by simp at hj;omega
 by_cases e:j<k
 ·have:=h3 j (by rw[hl];exact e) (by omega);rw[List.getElem_append_left (by omega)];simpa [List.getElem_take] using this
 have e:j=k:=by omega
 subst e;have:(xs++ [x])[j]=x:=by rw[List.getElem_append_right (by omega)];simp[h2,hl]
 rw[this,List.getElem_take];exact⟨h0,h1⟩
theorem xk(w:World)(b len base c:Nat)(a:Option Addr)(ts:List CT)(ht:Tp w b len)(hb:b<base)(ho:w.ownsRow base 130 5 (.slice a ts.length c) ts.length (ts.flatMap iE))(hr:dF base w ts)(hl:ts.length<=16)
  (hc:∀c∈clks ts,1<=c.choices.length):
  Calls Tryz.prog 47 #[.pointer (some ⟨b,0,none⟩),.slice a ts.length c] w (UB b len w (clks ts)):=by
 have TT:=aa ht;have HB:=aa ht.has;have HO:=aa ho;have HR:=aa hr;have HC:=aa hc;clear ht ho hr hc;obtain⟨i0,hi,dt,da,cN⟩:=info_parts eS;go_enter Tryz.func47,Tryz.ntmps47;go_wp2;go_loopw [5,10] (fun s i wr=>∃(k:Nat) (xs:List Int) (a' c':_),k<=ts.length/\s= .slice a' k c'/\i= .int .i64 k/\wr.ownsRow w.heap.size 3 1 (.slice a' k c') k (an xs)/\aI ((clks ts).take k) xs/\Mv b len w wr) (fun _ i _=>ts.length-(intOf i).toNat);case atStart=>exact⟨0,[],none,0,Nat.zero_le _,rfl,rfl,World.ownsRow_nil _ _ _ _,⟨rfl,fun k h=>absurd h (by simp)⟩,Mv.refl TT.out⟩
 case round=>
  obtain⟨k,xs,a',c',hk,rfl,rfl,ho,hs,hm⟩:=hrel;have H1:=aa ho;have HS:=aa hs;have HM:=aa hm;clear ho hs hm;obtain⟨wo,rfl⟩:∃wo:World,wo=wr:=⟨_,rfl⟩;by_cases aA:k<ts.length
  ·have tT:k<(clks ts).length:=by rw[ez];exact aA
   obtain⟨a2,c2,e2,_,sl⟩:=yi (HM.out.owns HO.out hb) (HR.out.mv HM.out hb) (by omega);cases e2
   obtain⟨bb,o,rfl,⟨c0,_⟩,⟨ap,cp,c1,c1l,jQ,sp⟩,⟨ac,cc,c3,c3l,c3f,sc⟩,⟨c4,_⟩,c5,_⟩:=sl k tT;have zF:=HC.out _ (List.getElem_mem tT);have Bj:(clks ts)[k].choices.length<=8:=by have:=(HR.out ts[k] (List.getElem_mem aA)).2.2.2.2.2.1;simpa [clks] using this
   obtain⟨N,hN⟩:∃N:Nat,Hid ((clks ts)[k].choices.length=N):=⟨_,aa rfl⟩;rw[hN.out] at c3 zF Bj c3l;clear sl sp sc jQ c3f;go_wp2_with fail;refine(k7 _ b len N ((HM.out.alloc _).tp TT.out) (by omega) (by omega)).mono ?_;rintro e w2 ⟨x,rfl,⟨x0,x1⟩,rC⟩;have O2:=aa (rC.owns (H1.out.alloc _) HB.out);have M2:=aa ((HM.out.alloc _).trans HB.out rC);clear rC c0 c1 c3 c4 c5 H1 HM;go_wp2_with (at_builtin;refine wpList_append_own _ rfl _ _ 22 rfl w.heap.size 3 i0 (.int .i64 0) 1 8 Tryz.underlying22 hi dt da cN rfl (by decide) (.slice a' k c') k (an xs) rfl (O2.out.alloc _) ⟨w2.heap.size,0,none⟩ 1 1 (an [x]) rfl rfl (cell_one_new _ _ _) (gL _) (by unfold maxLen;omega) (by omega) (by have:=M2.out.size;simp;omega) ?_;intro v' wz bI aE eJ;have OZ:=aa bI;have GZ:=aa aE;clear bI aE eJ;obtain⟨g',cap',rfl⟩:=ownsRow_succ OZ.out);go_roundw;case rel=>refine⟨k+1,xs++ [x],some ⟨g',0,none⟩,cap',by omega,rfl,by go_num,?_,Qv HS.out tT x0 (by rw[hN.out];omega),(M2.out.alloc _).grown GZ.out (fun j e=>(O2.out.lt j e).1)⟩;have:=OZ.out;simpa [an] using this
   case measure=>simp[intOf];omega
  obtain rfl:k=ts.length:=by omega
  go_wp2;go_ret;refine⟨xs,_,rfl,?_,?_,HM.out⟩
  ·rw[ez];exact H1.out
  have:=HS.out;rwa [List.take_of_length_le (by rw[ez];exact Nat.le_refl _)] at this
theorem sV{w:World}{base n:Nat}{v:Value}{xs:List Int}(h:w.ownsRow base 3 1 v n (an xs))(hw:∀k (hk:k<xs.length),aK xs[k]):∃a c,v= .slice a n c/\ag 1 RI w a xs:=by obtain⟨a,c,e,_,ho⟩:=fX h;exact⟨a,c,e,ho.slI hw⟩
end
section
open Go.RowKit
theorem WU{α β:Type}{xs:List α}{f:α->β}{a b:β}(h:xs.map f= [a,b]):∃y0 y1,xs= [y0,y1]/\f y0=a/\f y1=b:=by rcases xs with _|⟨y0,_|⟨y1,_|⟨y2,xs⟩⟩⟩<;>simp at h;exact⟨y0,y1,rfl,h.1,h.2⟩
theorem V6{α:Type}{xs:List α}(h:xs.length=2):∃y0 y1,xs= [y0,y1]:=by rcases xs with _|⟨y0,_|⟨y1,_|⟨y2,xs⟩⟩⟩<;>simp at h;exact⟨y0,y1,rfl⟩
theorem Mk{W:World}{rest:List (String×DataW Unit)}(h:laidMet Tryz.prog (("bringup/clock.off",.agg [.lit (.int .i64 0),.lit (.int .i64 1)])::rest) W):kW W:=by
 obtain⟨ps,⟨g',t',cs,fuel,p,q,oq,Aa,hvar,hd,_,_⟩,_⟩:=h;have hg:Tryz.prog.globalNamed "bringup/clock.off" =some 0:=by kernel_rfl
 have hty:(Tryz.prog.globals[0]?).map (·.type)=some 57:=by kernel_rfl
 obtain rfl:=Option.some.inj (hg.symm.trans oq);obtain rfl:=Option.some.inj (hty.symm.trans Aa);have hu:Tryz.prog.underlying 57=some (.struct (Tryz.prog.fieldsOf 57)):=by kernel_rfl
 have f0:((Tryz.prog.fieldsOf 57)[0]?).map (fun f=>(f.type,f.offset))=some (3,0):=by kernel_rfl
 have f1:((Tryz.prog.fieldsOf 57)[1]?).map (fun f=>(f.type,f.offset))=some (3,1):=by kernel_rfl
 have hc:Tryz.prog.cellsOf 57=2:=by kernel_rfl
 have hci:Tryz.prog.cellsOf 3=1:=by kernel_rfl
 obtain⟨xs,n,_,hx,hl,_,hf⟩:=DataW.trod_struct hu hd;have Au:xs.map (·.1)= [.lit (.int .i64 0),.lit (.int .i64 1)]:=by have:=congrArg Prod.fst hx;exact(DataW.agg.inj this).symm
 obtain⟨y0,y1,rfl,lR,jm⟩:=WU Au;rw[hc] at hl;obtain⟨c0,c1,lV⟩:=V6 hl;have key:∀(i:Nat),((Tryz.prog.fieldsOf 57)[i]?).map (fun f=>(f.type,f.offset))=some (3,i)->∀y,[y0,y1][i]?=some y->∃m,(cs.toList.drop i).take 1= [.int .i64 m]/\y.1= .lit (.int .i64 m):=by
  intro i hi y hy;cases e:(Tryz.prog.fieldsOf 57)[i]? with
  |none=>rw[e] at hi;cases hi
  |some f=>rw[e] at hi;simp only[Option.map_some,Option.some.injEq,Prod.mk.injEq] at hi;have:=hf i f e;rw[hi.1,hi.2,hci,hy] at this;obtain⟨m,q1,q2,_⟩:=DataW.trod_int Tryz.underlying3 this;exact⟨m,q1,by rw[q2]⟩
 obtain⟨m0,a0,b0⟩:=key 0 f0 y0 rfl;obtain⟨m1,a1,b1⟩:=key 1 f1 y1 rfl;rw[lV] at a0 a1;simp at a0 a1;rw[lR] at b0;rw[jm] at b1;simp at b0 b1;subst b0 b1 a0 a1;have g0:=World.var?_cell hg hvar 0;have g1:=World.var?_cell hg hvar 1;have hz:∀i:Nat,cs[i]?=cs.toList[i]?:=fun i=>by simp
 rw[hz,lV] at g0 g1;exact⟨by simpa using g0,by simpa using g1⟩
end
section
open Classical
section
variable {cal:List Int->Bool} (h1:cal [0,0,0]=true) (h2:cal [0,0,1]=true) (h3:cal [0,1,0]=false) (h4:cal [0,1,1]=true)
include h1 h2 h3 h4
end
theorem tN_of{n d k:Int}(h:¬nZ n d k)(ho:eu n d k=true):tN n d k=gQ (n*(k/Int.gcd k d)) (d/Int.gcd k d)/\tD n d k=iw (n*(k/Int.gcd k d)) (d/Int.gcd k d):=by rw[tN,tD,if_pos ho,if_pos ho,tmN,tmD,if_neg h,if_neg h];exact⟨rfl,rfl⟩
end
section
open Go.RowKit
theorem sZ(w:World)(arr:Array Value)(T B:Nat)(hB:B=w.heap.size):Row (w.alloc (.cells arr T)) B T arr.toList:=by subst hB;exact Row.new w arr T
end
section
open Go.RowKit
open Classical
structure Env(w:World)(l:List Clk)(ms:List Lmt)(al am:Option Addr):Prop where
 clks:ag 5 cY w al l
 lmts:ag 3 lQ w am ms
 off:kW w
 chk:bA l=0
 lims:ms.length<=32/\∀j (h:j<ms.length),lF l ms[j]
theorem Env.gr{w w':World}{l:List Clk}{ms:List Lmt}{al am:Option Addr}(h:Env w l ms al am)(hg:Gr w w'):Env w' l ms al am:=
 ⟨bj h.clks hg,iR h.lmts hg,h.off.gr hg,h.chk,h.lims⟩
abbrev spV(l:List Clk)(ms:List Lmt)(al am:Option Addr)(cl cm BK:Nat):Value:= .agg #[.slice al l.length cl,.slice am ms.length cm,.map (some BK)]
def Kn(w:World)(BK:Nat)(l:List Clk)(cal:List Int->Bool):Prop:=
 ∃V:List (List Int×Bool),Dp w BK (V.map fun q=>(num l q.1,q.2))/\(V.map (·.1)).Nodup/\∀q∈V,aI l q.1/\q.2=cal q.1
theorem Kn.has{w:World}{BK:Nat}{l:List Clk}{cal:List Int->Bool}(h:Kn w BK l cal):Has w BK:=h.elim fun _ h=>h.1.has
theorem Kn.kept{w w':World}{BK:Nat}{l:List Clk}{cal:List Int->Bool}{row:Option Nat}(h:Kn w BK l cal)(hg:w.grownBy w' row)(bS:some BK≠row):Kn w' BK l cal:=
 h.elim fun V h=>⟨V,h.1.kept hg bS,h.2⟩
theorem Kn.gr{w w':World}{BK:Nat}{l:List Clk}{cal:List Int->Bool}(h:Kn w BK l cal)(hg:Gr w w'):Kn w' BK l cal:=h.elim fun V h=>⟨V,h.1.gr hg,h.2⟩
theorem Kn.block{w w':World}{BK:Nat}{l:List Clk}{cal:List Int->Bool}(h:Kn w BK l cal)(hb:w'.heap[BK]?=w.heap[BK]?):Kn w' BK l cal:=h.elim fun V h=>⟨V,h.1.block hb,h.2⟩
theorem m8{l:List Clk}{s:List Int}(hc:bA l=0)(hs:aI l s):aK (num l s):=by have:=Hg hc hs;unfold aK;omega
theorem pS{β:Type}{l:List Clk}{V:List (List Int×β)}{s:List Int}(hV:∀q∈V,aI l q.1)(hs:aI l s):ba (V.map fun q=>(num l q.1,q.2)) (num l s)=ba V s:=
 LZ (num l) V s fun q hq e=>Cc (hV q hq) hs e
theorem Ht{β:Type}{l:List Clk}{V:List (List Int×β)}(hn:(V.map (·.1)).Nodup)(hV:∀q∈V,aI l q.1):V.length<=bF l:=by
 have h1:(V.map (fun q=>num l q.1)).Nodup:=by rw[List.nodup_iff_pairwise_ne,List.pairwise_map] at hn ⊢;exact hn.imp_of_mem fun{a b} ha hb vE e=>vE (Cc (hV a ha) (hV b hb) e)
 have:=zW h1 (n:=bF l) (fun x hx=>by obtain⟨q,hq,rfl⟩:=List.mem_map.1 hx;exact mO (hV q hq))
 simpa using this
theorem Gr.by{w w':World}(h:Gr w w')(row:Option Nat):w.grownBy w' row:=by have hb:=h.below;exact⟨hb.os,hb.tape,hb.output,hb.size,fun k hk _=>hb.block k hk⟩
theorem gm{l:List Clk}{s:List Int}(hc:bA l=0)(hs:aI l s):∀k (hk:k<s.length),aK s[k]:=fun k hk=>by obtain⟨nb,_,_,_⟩:=bm hc;have hl:=hs.1;have h1:=hs.2 k (by omega) hk;have h2:=fR nb (k:=k) (by omega);unfold aK;omega
def sp3F(wr:World)(l:List Clk)(ms:List Lmt)(s:List Int)(al am:Option Addr)(cl cm BK XB:Nat)(t5 nR nY oz nH nU jw jB io:Value)(d:Array Bool)(w:World):Prop:=
 Gr wr w/\(d.getD 0 false=true->nR= .pointer (some ⟨XB,0,none⟩))/\
 (d.getD 1 false=true->nY= .slice al l.length cl)/\
 (d.getD 2 false=true->oz= .agg #[.slice al l.length cl,.slice am ms.length cm,.map (some BK)])/\
 (d.getD 3 false=true->nH= .int .i64 (num l s))/\
 (d.getD 4 false=true->(∃SB,nU= .slice (some ⟨SB,0,none⟩) l.length l.length/\Row w SB 3 (an s)))/\
 (d.getD 5 false=true->jw= .pointer (some ⟨XB,1,none⟩))/\
 (d.getD 6 false=true->jB= .slice am ms.length cm)/\
 (d.getD 7 false=true->io= .bool (aG l ms s))/\
 (d.getD 8 false=true->t5= .bool (aG l ms s))
def tP(l:List Clk)(s:List Int)(XB:Nat)(t5 nR nY oz nH nU jw jB io s0 s3 s4 s6 s7 s8 s9 fQ dR ei cI cJ dc dB dD dv dC du:Value):Act:={tmps:= #[s0,.int .i64 (num l s),.pointer (some ⟨XB,0,none⟩),s3,s4,t5,s6,s7,s8,s9,fQ,dR,ei,cI,cJ,dc,nR,nY,oz,nH,nU,jw,jB,io,dB,dD,dv,dC,du],defers:= []}
theorem sp3{Q:Exit->Act->World->Prop}{wr:World}{l:List Clk}{ms:List Lmt}{s:List Int}{al am:Option Addr}{cl cm BK XB:Nat}{s0 s3 s4 s5 s6 s7 s8 s9 fQ dR ei cI cJ dc dg dk di cK de dQ dI eG dB dD dv dC du:Value}(RX:Row wr XB 158 [.slice al l.length cl,.slice am ms.length cm,.map (some BK)])(he:Env wr l ms al am)(aZ:aI l s)
  (h':∀nR nY oz nH nU jw jB io wx,Gr wr wx->Q .normal (tP l s XB (.bool (aG l ms s)) nR nY oz nH nU jw jB io s0 s3 s4 s6 s7 s8 s9 fQ dR ei cI cJ dc dB dD dv dC du) wx):
  (Code.region 3 (fr 3 Tryz.f164) true).wp Tryz.prog Q {tmps:= #[s0,.int .i64 (num l s),.pointer (some ⟨XB,0,none⟩),s3,s4,s5,s6,s7,s8,s9,fQ,dR,ei,cI,cJ,dc,dg,dk,di,cK,de,dQ,dI,eG,dB,dD,dv,dC,du],defers:= []} wr:=by
 have HE:=PLift.up he;have HT:=PLift.up aZ;have SW:=PLift.up (gm he.chk aZ);clear he aZ;simp only[fr,Tryz.f164,gM,Option.bind_some,Option.getD_some,Nat.beq,cond_true,cond_false];refine dW (fun done a w=>∃t5 nR nY oz nH nU jw jB io,a=tP l s XB t5 nR nY oz nH nU jw jB io s0 s3 s4 s6 s7 s8 s9 fQ dR ei cI cJ dc dB dD dv dC du/\sp3F wr l ms s al am cl cm BK XB t5 nR nY oz nH nU jw jB io done w) (by kernel_rfl) (by kernel_rfl) ?_ ⟨?_,?_,?_,?_,?_,?_,?_,?_,?_,trivial⟩ ?_
 ·exact⟨s5,dg,dk,di,cK,de,dQ,dI,eG,rfl,(gfl _).drew,fun q=>absurd q (by decide),fun q=>absurd q (by decide),fun q=>absurd q (by decide),fun q=>absurd q (by decide),fun q=>absurd q (by decide),fun q=>absurd q (by decide),fun q=>absurd q (by decide),fun q=>absurd q (by decide),fun q=>absurd q (by decide)⟩
 rotate_right
 ·rintro done a w aH ⟨t5,nR,nY,oz,nH,nU,jw,jB,io,rfl,gw,f0,f1,f2,f3,f4,f5,f6,f7,f8⟩;obtain rfl:=f8 (aH 8 (by decide));exact h' _ _ _ _ _ _ _ _ w gw
 all_goals(rintro done a w iB fD aO ⟨t5,nR,nY,oz,nH,nU,jw,jB,io,rfl,gw,f0,f1,f2,f3,f4,f5,f6,f7,f8⟩ K hK;have hn:=nd fD;have HK:=PLift.up hK;clear hK)
 ·simp only[tP];go_simp;have gg:=gfl w;refine HK.down _ _ ⟨_,_,_,_,_,_,_,_,_,rfl,gw,fun _=>rfl,kp f1,kp f2,kp f3,ku f4,kp f5,kp f6,kp f7,kp f8⟩
 ·have d0:=aO 0 (by kernel_rfl);obtain rfl:=f0 d0;have r:=RX.gr gw;have c0:=r.cell 0 (by simp);have c1:=r.cell 1 (by simp);have c2:=r.cell 2 (by simp);have ch:=r.has;simp only[List.getElem_cons_zero,List.getElem_cons_succ] at c0 c1 c2;clear r;clear d0;simp only[tP];go_simp;have gg:=gfl w;refine HK.down _ _ ⟨_,_,_,_,_,_,_,_,_,rfl,gw,kp f0,fun _=>rfl,kp f2,kp f3,ku f4,kp f5,kp f6,kp f7,kp f8⟩
 ·have r:=RX.gr gw;have c0:=r.cell 0 (by simp);have c1:=r.cell 1 (by simp);have c2:=r.cell 2 (by simp);have ch:=r.has;simp only[List.getElem_cons_zero,List.getElem_cons_succ] at c0 c1 c2;clear r;simp only[tP];go_simp;have gg:=gfl w;refine HK.down _ _ ⟨_,_,_,_,_,_,_,_,_,rfl,gw,kp f0,kp f1,fun _=>rfl,kp f3,ku f4,kp f5,kp f6,kp f7,kp f8⟩
 ·simp only[tP];go_simp;have gg:=gfl w;refine HK.down _ _ ⟨_,_,_,_,_,_,_,_,_,rfl,gw,kp f0,kp f1,kp f2,fun _=>rfl,ku f4,kp f5,kp f6,kp f7,kp f8⟩
 ·have d2:=aO 2 (by kernel_rfl);have d3:=aO 3 (by kernel_rfl);obtain rfl:=f2 d2;obtain rfl:=f3 d3;clear d2 d3;simp only[tP];go_simp;refine(AY l s al am cl ms.length cm (.map (some BK)) w (bj HE.down.clks gw) HE.down.chk HT.down).mono ?_;rintro e w2 ⟨SB,rfl,hr,hb,hg⟩;have gg:Gr w w2:=hg;clear hg hb
  (try go_simp)
  refine HK.down _ _ ⟨_,_,_,_,_,_,_,_,_,rfl,gw.trans gg,kp f0,kp f1,kp f2,kp f3,?_,kp f5,kp f6,kp f7,kp f8⟩;exact fun _=>⟨SB,rfl,hr⟩
 ·simp only[tP];go_simp;have gg:=gfl w;refine HK.down _ _ ⟨_,_,_,_,_,_,_,_,_,rfl,gw,kp f0,kp f1,kp f2,kp f3,ku f4,fun _=>rfl,kp f6,kp f7,kp f8⟩
 ·have d5:=aO 5 (by kernel_rfl);obtain rfl:=f5 d5;have r:=RX.gr gw;have c0:=r.cell 0 (by simp);have c1:=r.cell 1 (by simp);have c2:=r.cell 2 (by simp);have ch:=r.has;simp only[List.getElem_cons_zero,List.getElem_cons_succ] at c0 c1 c2;clear r;clear d5;simp only[tP];go_simp;have gg:=gfl w;refine HK.down _ _ ⟨_,_,_,_,_,_,_,_,_,rfl,gw,kp f0,kp f1,kp f2,kp f3,ku f4,kp f5,fun _=>rfl,kp f7,kp f8⟩
 ·have d1:=aO 1 (by kernel_rfl);have d4:=aO 4 (by kernel_rfl);have d6:=aO 6 (by kernel_rfl);obtain rfl:=f1 d1;obtain rfl:=f6 d6;obtain⟨SB,rfl,hr⟩:=f4 d4;have HR:=PLift.up hr;clear hr;clear d1 d6;simp only[tP];go_simp;have CC:=yM l ms s al (some ⟨SB,0,none⟩) am cl l.length cm w (bj HE.down.clks gw) (HR.down.s.slI SW.down) (iR HE.down.lmts gw) HE.down.chk HT.down HE.down.lims (HE.down.off.gr gw);rw[HT.down.1] at CC;refine CC.mono ?_;rintro e w2 ⟨rfl,hg⟩;have gg:Gr w w2:=hg;clear hg
  (try go_simp)
  refine HK.down _ _ ⟨_,_,_,_,_,_,_,_,_,rfl,gw.trans gg,kp f0,kp f1,kp f2,kp f3,fun _=>⟨SB,rfl,HR.down.gr gg⟩,kp f5,kp f6,fun _=>rfl,kp f8⟩
 have d7:=aO 7 (by kernel_rfl);obtain rfl:=f7 d7;clear d7;simp only[tP];go_simp;have gg:=gfl w;refine HK.down _ _ ⟨_,_,_,_,_,_,_,_,_,rfl,gw,kp f0,kp f1,kp f2,kp f3,ku f4,kp f5,kp f6,kp f7,fun _=>rfl⟩
theorem Ib(l:List Clk)(ms:List Lmt)(s:List Int)(al am:Option Addr)(cl cm BK:Nat)(w:World)(bH:Env w l ms al am)(aZ:aI l s)(hk:Kn w BK l (aG l ms)):
  Calls Tryz.prog 164 #[spV l ms al am cl cm BK,.int .i64 (num l s)] w fun e w'=>e= .returned (.bool (aG l ms s))/\Kn w' BK l (aG l ms)/\w.grownBy w' (some BK):=by
 obtain⟨V,hV,hn,hq⟩:=hk;have lX:=pS (fun q h=>(hq q h).1) aZ (V:=V);have hwn:=m8 bH.chk aZ;obtain⟨XB,hXB⟩:∃XB:Nat,Hid (w.heap.size=XB):=⟨_,aa rfl⟩;obtain⟨W1,hW1⟩:∃W1:World,Hid (W1=w.alloc (.cells #[.slice al l.length cl,.slice am ms.length cm,.map (some BK)] 158)):=⟨_,aa rfl⟩;have G1:Hid (Gr w W1):=aa (by rw[hW1.out];exact(gfl _).alloc _);have X1:Hid (Row W1 XB 158 [.slice al l.length cl,.slice am ms.length cm,.map (some BK)]):=aa (by rw[hW1.out,<-hXB.out];exact Row.new w _ _);have E1:=aa (bH.gr G1.out);have M1:=aa (hV.gr G1.out);have VN:=aa hn;have VQ:=aa hq;have HT:=aa aZ;have LK:=IE M1.out hwn;rw[lX] at LK;have WN:=aa hwn;have HLK:=aa lX;obtain⟨n,en⟩:∃n,num l s=n:=⟨_,rfl⟩;have EN:=aa en;rw[en] at LK ⊢;clear hV hn hq aZ hwn lX bH en;cases hl:ba V s with
 |some b=>have hb:b=aG l ms s:=(VQ.out _ (fZ hl)).2;rw[hl] at LK;simp only[Option.getD_some,Option.isSome_some] at LK;have HB:=aa hb;clear hb hl;rw[hW1.out] at LK;go_enter Tryz.func164,Tryz.ntmps164;go_wp2_with fail;go_ret;exact⟨ai HB.out,(show Kn W1 BK l (aG l ms) from⟨V,M1.out,VN.out,VQ.out⟩)|>(fun h=>hW1.out▸h),World.grownBy_alloc _ _ _⟩
 |none=>
  rw[hl] at LK;simp only[Option.getD_none,Option.isSome_none] at LK;rw[hW1.out] at LK;have HL:=aa hl;clear hl;go_enter Tryz.func164,Tryz.ntmps164;go_wp2_with fail;rw[<-hW1.out,hXB.out,<-EN.out];have x0:=X1.out.cell 0 (by simp);have x1:=X1.out.cell 1 (by simp);have x2:=X1.out.cell 2 (by simp);simp only[List.getElem_cons_zero,List.getElem_cons_succ] at x0 x1 x2;have xh:=X1.out.has;refine m6 (c:=Code.region 3 (fr 3 Tryz.f164) true) (by kernel_rfl) (sp3 (wr:=W1) (l:=l) (ms:=ms) (s:=s) (al:=al) (am:=am) (cl:=cl) (cm:=cm) (BK:=BK) (XB:=XB) X1.out E1.out HT.out ?_);intro nR nY oz nH nU jw jB io W3 hg;simp only[tP];have x2:=(X1.out.gr hg).cell 2 (by simp);simp only[List.getElem_cons_zero,List.getElem_cons_succ] at x2;have xh:=(X1.out.gr hg).has;have lX:ba (V.map fun q=>(num l q.1,q.2)) (num l s)=none:=by rw[HLK.out,HL.out]
  have gO:=Ht VN.out (fun q h=>(VQ.out q h).1);have h4:=(bm E1.out.chk).2.2.1;have SR:=Gt (M1.out.gr hg) WN.out lX (by rw[List.length_map];unfold maxLen;omega) (aG l ms s);have G3:=aa hg;clear hg lX gO h4 M1;go_wp2_with (first|(at_mapUpdate;refine wZ _ rfl _ _ _ _ rfl rfl rfl rfl SR ?_;rintro W4 ⟨hm,hgb⟩)|fail);go_ret;refine⟨rfl,⟨V++ [(s,aG l ms s)],?_,?_,?_⟩,?_⟩
  ·rw[List.map_append];exact hm
  ·rw[List.map_append,List.nodup_append];refine⟨VN.out,by simp,?_⟩;intro a ha b hb e;subst e;have:a=s:=by simpa using hb
   subst this;exact wG.1 HL.out ha
  ·intro q hq;rcases List.mem_append.1 hq with hq|hq
   ·exact VQ.out q hq
   have:q=(s,aG l ms s):=by simpa using hq
   subst this;exact⟨HT.out,rfl⟩
  exact((G1.out.trans G3.out).by _).trans hgb
abbrev Df(σ:Type):=σ->World->List Nat->Prop
structure tH{σ:Type}(I:Df σ):Prop where
 keep:∀st w w' L row,I st w L->w.grownBy w' row->(∀b,row=some b->b∈L)->I st w' L
 sub:∀st w L L',I st w L->(∀b∈L',b∈L)->I st w L'
structure EI{σ:Type}(I:Df σ)(w0 w:World)(l:List Clk)(ms:List Lmt)(al am:Option Addr)(cl cm BK XB SB:Nat)(L0:List Nat)(st:σ)(wr:World)(u:List Int):Prop where
 row:Row wr SB 3 (an u)
 box:Row wr XB 158 [.slice al l.length cl,.slice am ms.length cm,.map (some BK)]
 kn:Kn wr BK l (aG l ms)
 st:I st wr (XB::SB::L0)
 gr:Gr w0 wr
 keep:∀b∈L0,b≠BK->wr.heap[b]?=w.heap[b]?
 size:w.heap.size<=wr.heap.size
section
variable {σ:Type} {I:Df σ} {w0 w:World} {l:List Clk} {ms:List Lmt} {al am:Option Addr} {cl cm BK XB SB:Nat} {L0:List Nat} {st:σ} {wr:World} {u:List Int}
theorem EI.grow{w':World}(h:EI I w0 w l ms al am cl cm BK XB SB L0 st wr u)(hI:tH I)(hL:∀b∈L0,Has w b)(hg:Gr wr w'):EI I w0 w l ms al am cl cm BK XB SB L0 st w' u where
 row:=h.row.gr hg
 box:=h.box.gr hg
 kn:=h.kn.gr hg
 st:=hI.keep _ _ _ _ none h.st (hg.by none) (fun b e=>by cases e)
 gr:=h.gr.trans hg
 keep:=fun b hb bS=>(hg.below.block b (Nat.lt_of_lt_of_le (hL b hb) h.size)).trans (h.keep b hb bS)
 size:=Nat.le_trans h.size hg.size
theorem EI.set(h:EI I w0 w l ms al am cl cm BK XB SB L0 st wr u)(hI:tH I)(hL:∀b∈L0,Has w b)(hs:w.heap.size<=SB)(hx:XB≠SB)(h0:w0.heap.size<=SB)(hBK:BK∈L0)(i:Nat)(x:Int):
  EI I w0 w l ms al am cl cm BK XB SB L0 st (wr.setCell ⟨SB,i,none⟩ (.int .i64 x)) (u.set i x) where
 row:=h.row.iset i x
 box:=h.box.oth (Ne.symm hx)
 kn:=h.kn.kept (cA wr SB i _) (by have:=hL BK hBK;unfold Has at this;intro e;injection e with e;omega)
 st:=hI.keep _ _ _ _ _ h.st (cA wr SB i _) (fun b e=>by injection e with e;subst e;simp)
 gr:=h.gr.setc h0
 keep:=fun b hb bS=>((cA wr SB i (.int .i64 x)).block b (Nat.lt_of_lt_of_le (hL b hb) h.size) (by have:=hL b hb;unfold Has at this;intro e;injection e with e;omega)).trans (h.keep b hb bS)
 size:=Nat.le_trans h.size (cA wr SB i (.int .i64 x)).size
theorem EI.known{w':World}(h:EI I w0 w l ms al am cl cm BK XB SB L0 st wr u)(hI:tH I)(hL:∀b∈L0,Has w b)(hs:w.heap.size<=SB)(hX:w.heap.size<=XB)(h0:w0.heap.size<=BK)(hBK:BK∈L0)(hg:wr.grownBy w' (some BK))(hk:Kn w' BK l (aG l ms)):
  EI I w0 w l ms al am cl cm BK XB SB L0 st w' u where
 row:=h.row.grown hg (by have:=hL BK hBK;unfold Has at this;intro e;injection e with e;omega)
 box:=h.box.grown hg (by have:=hL BK hBK;unfold Has at this;intro e;injection e with e;omega)
 kn:=hk
 st:=hI.keep _ _ _ _ _ h.st hg (fun b e=>by injection e with e;subst e;simp[hBK])
 gr:=h.gr.grown hg (fun k e=>by injection e with e;omega)
 keep:=fun b hb bS=>(hg.block b (Nat.lt_of_lt_of_le (hL b hb) h.size) (fun e=>bS (by injection e))).trans (h.keep b hb bS)
 size:=Nat.le_trans h.size hg.size
theorem EI.call{w':World}{st':σ}(h:EI I w0 w l ms al am cl cm BK XB SB L0 st wr u)(hI:tH I)(hBK:BK∈L0)(h1:I st' w' (XB::SB::L0))(h2:Gr w0 w')(h3:∀b∈XB::SB::L0,w'.heap[b]?=wr.heap[b]?)(h4:wr.heap.size<=w'.heap.size):
  EI I w0 w l ms al am cl cm BK XB SB L0 st' w' u where
 row:=by have:=h.row;unfold Row at this ⊢;rw[h3 SB (by simp)];exact this
 box:=by have:=h.box;unfold Row at this ⊢;rw[h3 XB (by simp)];exact this
 kn:=h.kn.block (h3 BK (by simp[hBK]))
 st:=h1
 gr:=h2
 keep:=fun b hb bS=>(h3 b (by simp[hb])).trans (h.keep b hb bS)
 size:=Nat.le_trans h.size h4
theorem EI.hasL(h:EI I w0 w l ms al am cl cm BK XB SB L0 st wr u)(hL:∀b∈L0,Has w b):∀b∈XB::SB::L0,Has wr b:=by
 intro b hb;rcases List.mem_cons.1 hb with e|hb
 ·subst e;exact h.box.has
 rcases List.mem_cons.1 hb with e|hb
 ·subst e;exact h.row.has
 exact Nat.lt_of_lt_of_le (hL b hb) h.size
end
end
end Go.Proofs.YtlmhkjdkcoiioaaGreatDoor
