/- Lemmas and contracts for the proof of PointAlone (several texts in one, printed by wip/tools/pack.py): QcH RqM QcI QcK QcJ QdB. -/
import Derived.Test.YtlmhkjdkcoiioaaGreatDoorAl8pE
import Derived.Test.YtlmhkjdkcoiioaaGreatDoorAl8po
import Derived.Test.YtlmhkjdkcoiioaaGreatDoorAl8pw
import Derived.Test.YtlmhkjdkcoiioaaGreatDoorAl8pF
import Derived.Test.YtlmhkjdkcoiioaaGreatDoorAl8ps
import Derived.Test.YtlmhkjdkcoiioaaGreatDoorAl8px
import Derived.Test.YtlmhkjdkcoiioaaGreatDoorAl8pG
import Derived.Test.YtlmhkjdkcoiioaaGreatDoorAl8py
import Derived.Test.YtlmhkjdkcoiioaaGreatDoorAl8pz
import Derived.Test.YtlmhkjdkcoiioaaGreatDoorAl8pD
set_option maxRecDepth 100000
set_option maxHeartbeats 16000000
set_option linter.unusedVariables false
set_option linter.unusedSimpArgs false
namespace Go.Proofs.YtlmhkjdkcoiioaaGreatDoor
open Go.RowKit
open Classical
def exL:List Clk:= [⟨1,[],[100],0,0⟩,⟨3,[0],[1,2],0,0⟩]
def exP:List Sup:= [⟨-1,[800,1000],0,0,true⟩]
def exA:Rls:=⟨[true],[0]⟩
def exB:Rls:=⟨[true],[1]⟩
def exC:List Scl:= [⟨1,0,[⟨100,800⟩,⟨200,1000⟩]⟩]
theorem Gc:bA exL=0:=by
 refine Bt ?_ ?_ (by decide) (by decide)
 ·rintro(h|⟨k,h,q⟩)
  ·simp[exL] at h
  have:k=0∨k=1:=by simp[exL] at h;omega
  rcases this with rfl|rfl<;>simp[exL,ym] at q
 intro k hk;have:k=0∨k=1:=by simp[exL] at hk;omega
 refine⟨hk,?_⟩;rcases this with rfl|rfl
 ·exact⟨fun j h=>by simp[exL] at h,.inl ⟨rfl,rfl,rfl,by simp[exL],by simp[exL]⟩,by simp[Ql,exL]⟩
 refine⟨fun j h=>?_,.inr (.inl ⟨.inr rfl,rfl,by simp[exL],fun j hj=>?_⟩),by simp[Ql,exL]⟩
 ·have:j=0:=by simp[exL] at h;omega
  subst this;simp[exL]
 have:j=0∨j=1:=by simp[exL] at hj;omega
 rcases this with rfl|rfl
 ·exact⟨hj,by simp[exL],by simp[exL],by simp[exL]⟩
 exact⟨hj,by simp[exL],by simp[exL],by simp[exL]⟩
theorem yg:chk exP=0:=by
 refine Fm ?_ ?_
 ·rintro(h|⟨k,h,q⟩)
  ·simp[exP] at h
  have:k=0:=by simp[exP] at h;omega
  subst this;simp[exP] at q
 intro k hk;have:k=0:=by simp[exP] at hk;omega
 subst this;refine⟨hk,by simp[nt,exP],fun j hj=>?_⟩;have:j=0∨j=1:=by simp[exP] at hj;omega
 rcases this with rfl|rfl<;>exact⟨hj,by simp[exP]⟩
theorem Jw:fA [⟨100,800⟩,⟨200,1000⟩]:=⟨by decide,by decide,fun k hk=>by
 have:k=0∨k=1:=by simp at hk;omega
 rcases this with rfl|rfl<;>exact⟨hk,by simp⟩⟩
theorem NP:fU exL exP exC:=⟨Gc,yg,by decide,fun x hx=>by simp only[exC,List.mem_singleton] at hx;subst hx;exact⟨by decide,by decide,by decide,by decide,Jw⟩⟩
theorem Fp(r:Rls)(h:r=exA∨r=exB):bL exP r:=by rcases h with rfl|rfl<;>refine⟨yg,rfl,rfl,fun k h h'=>?_⟩<;>(have:k=0:=by simp[exP] at h;omega)<;>subst this<;>simp[exP,exA,exB]
theorem xN(s:List Int)(h:s= [0,0]∨s= [0,1]):aI exL s:=by rcases h with rfl|rfl<;>refine⟨rfl,fun k h h'=>?_⟩<;>(have:k=0∨k=1:=by simp[exL] at h;omega)<;>rcases this with rfl|rfl<;>simp[exL]
theorem Gq:b7 exP []:=⟨yg,by decide,fun k h=>by simp at h⟩
theorem Nf:fC exL []:=⟨Gc,by decide,fun k h=>by simp at h⟩
theorem yQ(s:List Int)(r:Rls)(hs:s= [0,0]∨s= [0,1])(hr:r=exA∨r=exB):j5 exL exP s r [] [] exC:=⟨NP,xN s hs,Fp r hr,Nf,Gq⟩
theorem yo(r:Rls)(h:r=exA∨r=exB):bi exP r []:=by
 refine⟨Gq,Fp r h,fun i hi=>?_,fun k hk=>by simp at hk⟩;have:i=0:=by simp[exP] at hi;omega
 subst this;refine⟨fun _=>by rcases h with rfl|rfl<;>rfl,fun _ h=>⟨by show ld exP [] 0<=(0:Int);decide,by simp[exP]⟩⟩
theorem Oc:rts exL [0,0]= [some (100,1),some (100,1)]:=by decide+kernel
theorem NY:rts exL [0,1]= [some (100,1),some (200,1)]:=by decide+kernel
theorem vn(s:List Int)(h:s= [0,0]∨s= [0,1]):aG exL [] s=true:=by
 unfold aG;refine dtx ⟨fun i hi=>?_,fun j hj=>by simp at hj⟩;have:i=0∨i=1:=by simp[exL] at hi;omega
 rcases h with rfl|rfl
 ·rw[Oc];rcases this with rfl|rfl<;>rfl
 rw[NY];rcases this with rfl|rfl<;>rfl
theorem yY:cn (rts exL [0,0]) ⟨1,0,[⟨100,800⟩,⟨200,1000⟩]⟩=(800,true):=by
 have hv:bU 100 1=true:=by decide+kernel
 have hw:vAt [⟨100,800⟩,⟨200,1000⟩] 100 1=some 800:=by decide+kernel
 rw[Oc];show jK _ (100:Int) 1=_;unfold jK gR;rw[if_neg (by decide),if_pos ⟨Jw,hv⟩,hw];rfl
theorem yw:cn (rts exL [0,1]) ⟨1,0,[⟨100,800⟩,⟨200,1000⟩]⟩=(1000,true):=by
 have hv:bU 200 1=true:=by decide+kernel
 have hw:vAt [⟨100,800⟩,⟨200,1000⟩] 200 1=some 1000:=by decide+kernel
 rw[NY];show jK _ (200:Int) 1=_;unfold jK gR;rw[if_neg (by decide),if_pos ⟨Jw,hv⟩,hw];rfl
theorem GH:j3 exL exP [0,0] exA [] [] exC:=⟨vn _ (.inl rfl),yo _ (.inl rfl),fun x hx=>by simp only[exC,List.mem_singleton] at hx;subst hx;unfold mr;rw[yY];exact⟨rfl,fun _=>⟨rfl,by decide⟩⟩⟩
theorem GY:j3 exL exP [0,1] exB [] [] exC:=⟨vn _ (.inr rfl),yo _ (.inr rfl),fun x hx=>by simp only[exC,List.mem_singleton] at hx;subst hx;unfold mr;rw[yw];exact⟨rfl,fun _=>⟨rfl,by decide⟩⟩⟩
theorem Tl{f t:List Int}{v:Int}(h:(f= [0,0]/\t= [0,1]/\v=1)∨(f= [0,1]/\t= [0,0]/\v=0))(ps:List (Int×Int))(hl:(ps.length:Int)=1)(yV:(bK f ps)[ps.length]'(by rw[cQ];omega)=t)(hw:∀p∈ps,xJ exL p):ps= [(1,v)]:=by
 obtain⟨p,rfl⟩:∃p,ps= [p]:=by
  cases ps with
  |nil=>simp at hl
  |cons p ps=>
   cases ps with
   |nil=>exact⟨p,rfl⟩
   |cons q ps=>simp at hl;omega
 obtain⟨u,w,e,hu,_⟩:=hw p (by simp);subst e;simp only[bK,qq,sR,List.length_cons,List.length_nil,Nat.zero_add,List.getElem_cons_succ,List.getElem_cons_zero,Int.toNat_natCast] at yV;have hu2:u=0∨u=1:=by simp[exL] at hu;omega
 rcases h with⟨rfl,rfl,rfl⟩|⟨rfl,rfl,rfl⟩<;>rcases hu2 with rfl|rfl<;>simp at yV<;>simp[yV]
theorem Nq(f t:List Int)(v:Int)(h:(f= [0,0]/\t= [0,1]/\v=1)∨(f= [0,1]/\t= [0,0]/\v=0)):plE exL [] f t=0/\plW exL [] f t= [(1,v)]:=by
 have hf:f= [0,0]∨f= [0,1]:=by rcases h with⟨rfl,_⟩|⟨rfl,_⟩<;>simp
 have ht:t= [0,0]∨t= [0,1]:=by rcases h with⟨_,rfl,_⟩|⟨_,rfl,_⟩<;>simp
 have h0:ju exL [] f t=0:=by unfold ju;rw[if_pos Gc,if_pos ⟨Nf,xN f hf,xN t ht⟩,if_pos ⟨vn f hf,vn t ht⟩]
 have hD:=IR (l:=exL) (cal:=aG exL []) (xN t ht) (vn t ht);have zB:((1:Int),v,f)∈nbS exL (aG exL []) t∨True:= .inr trivial;obtain⟨d,hd,d1⟩:∃d,dS exL (aG exL []) t f=some d/\d<=0+1:=by
  rcases h with⟨rfl,rfl,_⟩|⟨rfl,rfl,_⟩
  ·exact hD.dist.step [0,1] 0 ((1:Nat),(0:Nat),[0,0]) hD.dist.zero (qo.2 ⟨1,0,by decide,by decide,by decide,vn _ (.inl rfl),rfl⟩)
  exact hD.dist.step [0,0] 0 ((1:Nat),(1:Nat),[0,1]) hD.dist.zero (qo.2 ⟨1,1,by decide,by decide,by decide,vn _ (.inr rfl),rfl⟩)
 have d0:=hD.dist.nonneg _ _ hd;have dn:d≠0:=by rintro rfl;have:=hD.dist.only _ hd;rcases h with⟨rfl,rfl,_⟩|⟨rfl,rfl,_⟩<;>simp at this
 have e1:d=1:=by omega
 subst e1;have hE:=ww h0 (by rw[hd];simp);refine⟨hE.1,?_⟩;rw[hE.2];have hl:=zR hD hd;have yV:=EH hD hd;have hw:=(yO hD hd).1;exact Tl h _ hl yV hw
theorem Rl(f t:List Int)(hf:f= [0,0]∨f= [0,1])(ht:t= [0,0]∨t= [0,1])(bS:f≠t):rsE exL exP [f,t] [] exC=0/\rsL exL exP [f,t] [] exC= [⟨0,1000,5000,0⟩]:=by
 have hm:fO (fz exL [f,t]) ⟨1,0,[⟨100,800⟩,⟨200,1000⟩]⟩=1000:=by unfold fO fz;rcases hf with rfl|rfl<;>rcases ht with rfl|rfl<;>first|exact absurd rfl bS|(simp[yY,yw];done)|(simp[yY,yw];decide)
 have hl:iG (fz exL [f,t]) [] exC= [⟨0,1000,5000,0⟩]:=by unfold iG exC jk;simp[hm]
 have h0:rsE exL exP [f,t] [] exC=0:=by
  unfold rsE;rw[if_pos ⟨NP,Gq,fun s hs=>by
   simp at hs;rcases hs with rfl|rfl
   ·exact xN _ hf
   exact xN _ ht⟩,if_neg,hl,if_neg (by decide)]
  rintro⟨x,hx,R,hR,q⟩;simp only[exC,List.mem_singleton] at hx;subst hx;simp[fz] at hR;rcases hf with rfl|rfl<;>rcases ht with rfl|rfl<;>rcases hR with rfl|rfl<;>first|(rw[yY] at q;cases q)|(rw[yw] at q;cases q)
 refine⟨h0,?_⟩;unfold rsL;rw[if_pos h0,hl]
theorem ex_rd:b7 exP [⟨0,1000,5000,0⟩]:=⟨yg,by decide,fun k h=>by
 have:k=0:=by simp at h;omega
 subst this;simp[fq,exP]⟩
theorem Nt:fF exP [⟨0,1000,5000,0⟩] 0:=⟨1,by decide,.inl rfl⟩
theorem yy:lc exP [⟨0,1000,5000,0⟩]=0/\lO exP [⟨0,1000,5000,0⟩]=exB:=by
 have hb:beg exP [⟨0,1000,5000,0⟩]=0:=by unfold beg;rw[if_pos yg,if_pos ex_rd]
 have hu:cH exP [⟨0,1000,5000,0⟩]= [true]:=by simp only[cH];show [decide (fF exP _ 0)]=_;rw[dtx Nt]
 have hg:ix exP [⟨0,1000,5000,0⟩] exP.length=some ([1],[1000]):=by show ix exP _ 1=_;simp only[ix,Option.bind_some];have:=rI (l:=exP) (d:= [⟨0,1000,5000,0⟩]) (i:=0) (s:=(List.replicate exP.length 0,eB exP.length [⟨0,1000,5000,0⟩])) (k:=1) (by decide) Nt (by simp[eB,zS,exP,lvI,lvF]) (by decide) (by decide);show iq exP _ 0 _=_;rw[this];simp[eB,zS,exP]
 have hm:my exP ⟨[true],[1]⟩ [⟨0,1000,5000,0⟩]:=by
  refine⟨fun i hi=>?_,fun k hk=>?_⟩
  ·have:i=0:=by simp[exP] at hi;omega
   subst this;exact⟨fun _=>rfl,fun _ h=>⟨by show ld exP _ 0<=(0:Int);decide,by simp[exP]⟩⟩
  have:k=0:=by simp at hk;omega
  subst this;exact⟨by show(1000:Int)<=vlt exP ⟨[true],[1]⟩ 0;decide,by show vlt exP ⟨[true],[1]⟩ 0<=(5000:Int);decide⟩
 have hr:lM exP [⟨0,1000,5000,0⟩]=some exB:=by unfold lM;rw[hg];simp only[hu];rw[if_pos hm];rfl
 exact xi hb hr
theorem Bp(a b:Rls)(ha:a=exA∨a=exB)(hb:b=exA∨b=exB)(h:a=exB∨b=exB):ip exP a b=exB:=by
 unfold ip;rw[if_pos (Cd yg (fun r hr=>by
  simp at hr;rcases hr with rfl|rfl
  ·exact Fp _ ha
  exact Fp _ hb))]
 rcases ha with rfl|rfl<;>rcases hb with rfl|rfl<;>simp[aT,exA,exB,jlv,aQ,aF,List.range_succ]<;>simp[exA,exB] at h
theorem Bz(a b:Rls)(ha:a=exA∨a=exB)(hb:b=exA∨b=exB):fV exP a b []=if a=b then [] else [⟨2,0,aF b 0⟩]:=by unfold fV;rw[if_pos (rO (yo _ ha) (yo _ hb))];rcases ha with rfl|rfl<;>rcases hb with rfl|rfl<;>simp[l6,cE,fE,exP,gB,fT,aT,jlv,aQ,aF,exA,exB,List.range_succ]
theorem Vf:iF exL exP [0,0] [0,1] exA exB [] [] exC=0/\sW exL exP [0,0] [0,1] exA exB [] [] exC= [⟨2,0,1⟩,⟨1,1,1⟩]:=by
 have hp:=Nq [0,0] [0,1] 1 (.inl ⟨rfl,rfl,rfl⟩);have yF:bK [0,0] (plW exL [] [0,0] [0,1])= [[0,0],[0,1]]:=by rw[hp.2];rfl
 have hr:=Rl [0,0] [0,1] (.inl rfl) (.inr rfl) (by decide);have hE:iF exL exP [0,0] [0,1] exA exB [] [] exC=0:=by unfold iF si;rw[if_pos ⟨yQ _ _ (.inl rfl) (.inl rfl),yQ _ _ (.inr rfl) (.inr rfl)⟩,if_pos ⟨GH,GY⟩,if_pos hp.1,yF,if_pos hr.1,hr.2];exact yy.1
 refine⟨hE,?_⟩;have hT:rJ exL exP [0,0] [0,1] exA exB [] [] exC=exB:=by unfold rJ si;rw[yF,hr.2,yy.2,Bp _ _ (.inr rfl) (.inr rfl) (.inl rfl),Bp _ _ (.inl rfl) (.inr rfl) (.inr rfl)]
 unfold sW;rw[if_pos hE];unfold KQ;rw[hT,hp.2,Bz _ _ (.inl rfl) (.inr rfl),Bz _ _ (.inr rfl) (.inr rfl),if_neg (by simp[exA,exB]),if_pos rfl];rfl
theorem Oa:iF exL exP [0,1] [0,0] exB exA [] [] exC=0/\sW exL exP [0,1] [0,0] exB exA [] [] exC= [⟨1,1,0⟩,⟨2,0,0⟩]:=by
 have hp:=Nq [0,1] [0,0] 0 (.inr ⟨rfl,rfl,rfl⟩);have yF:bK [0,1] (plW exL [] [0,1] [0,0])= [[0,1],[0,0]]:=by rw[hp.2];rfl
 have hr:=Rl [0,1] [0,0] (.inr rfl) (.inl rfl) (by decide);have hE:iF exL exP [0,1] [0,0] exB exA [] [] exC=0:=by unfold iF si;rw[if_pos ⟨yQ _ _ (.inr rfl) (.inr rfl),yQ _ _ (.inl rfl) (.inl rfl)⟩,if_pos ⟨GY,GH⟩,if_pos hp.1,yF,if_pos hr.1,hr.2];exact yy.1
 refine⟨hE,?_⟩;have hT:rJ exL exP [0,1] [0,0] exB exA [] [] exC=exB:=by unfold rJ si;rw[yF,hr.2,yy.2,Bp _ _ (.inr rfl) (.inl rfl) (.inl rfl),Bp _ _ (.inr rfl) (.inr rfl) (.inl rfl)]
 unfold sW;rw[if_pos hE];unfold KQ;rw[hT,hp.2,Bz _ _ (.inr rfl) (.inr rfl),Bz _ _ (.inr rfl) (.inl rfl),if_pos rfl,if_neg (by simp[exA,exB])];rfl
theorem Qe(a b c:Int)(w:World):(binOp .neq 42 (.agg #[.int .i64 a,.int .i64 b,.int .i64 c]) (.agg #[.int .i64 a,.int .i64 b,.int .i64 c])).run Tryz.prog w= .ok (.bool false) w:=by rw[Ru];simp
theorem rX(xs:List Wri)(ax ay:Option Addr)(cx cy:Nat)(w:World)(hx:ag 3 dY w ax xs)(hy:ag 3 dY w ay xs)(fx:Fit xs.length):
  Calls Tryz.prog 14 #[.slice ax xs.length cx,.slice ay xs.length cy] w (aN w (.bool true)):=by
 unfold Fit at fx;have HX:=aa hx;have HY:=aa hy;clear hx hy;have hlb:((xs.length:Int) !=(xs.length:Int))=false:=by simp
 go_enter Tryz.func14,Tryz.ntmps14;go_wp2_with fail;go_loopw [13] (fun i wr=>∃k:Nat,k<=xs.length/\i= .int .i64 k/\Gr w wr) (fun i _=>xs.length-(intOf i).toNat);case atStart=>exact⟨0,Nat.zero_le _,rfl,gfl _⟩
 case round=>
  obtain⟨k,hk,rfl,hg⟩:=hrel;have HG:=aa hg;by_cases aA:k<xs.length
  ·obtain⟨b,o,rfl,⟨p0,_⟩,⟨p1,_⟩,⟨p2,_⟩⟩:=HX.out.gr dY.mono hg k aA;obtain⟨b',o',rfl,⟨q0,_⟩,⟨q1,_⟩,⟨q2,_⟩⟩:=HY.out.gr dY.mono hg k aA;have k2:(k:Int)<xs.length:=by omega
   have NQ:=Qe xs[k].kind xs[k].unit xs[k].value;clear hg;go_wp2_with fail
   go_quiet (fail)
   go_wp2_with fail;go_roundw;case rel=>exact⟨k+1,by omega,by go_num,by first|exact HG.out|exact HG.out.drewN _⟩
   case measure=>simp[intOf];omega
  go_wp2_with fail;go_ret;exact⟨rfl,HG.out⟩
theorem rx{W:World}{B T:Nat}{xs:List Int}{vs:List Value}(r:Row W B T vs)(h:vs=an xs)(hw:∀x∈xs,aK x):ag 1 RI W (some ⟨B,0,none⟩) xs:=by subst h;exact r.s.slI (fun j hj=>hw _ (List.getElem_mem hj))
theorem Of{W:World}{B T:Nat}{xs:List Bool}{vs:List Value}(r:Row W B T vs)(h:vs=bg xs):ag 1 RB W (some ⟨B,0,none⟩) xs:=by subst h;exact r.s.slB
def Wp(w:World)(e:Ending)(w':World):Prop:=
 ∃al ap af at2 a1 a2 a3 a4 ac:Option Addr,e= .returned (.agg #[.slice al 2 2,.slice ap 1 1,.slice af 2 2,.slice at2 2 2,.slice a1 1 1,.slice a2 1 1,.slice a3 1 1,.slice a4 1 1,.slice none 0 0,.slice none 0 0,.slice ac 1 1])/\(kW w->xj w' exL exP [0,0] [0,1] exA exB [] [] exC al ap af at2 a1 a2 a3 a4 none none ac 1 1 1 1)/\Gr w w'
def qG:World->List (Array Value×TypeId)->World
 |w,[]=>w
 |w,c::L=>qG (w.alloc (.cells c.1 c.2)) L
theorem z8{w:World}:∀{L:List (Array Value×TypeId)} {w0:World},Gr w w0->Gr w (qG w0 L)
 | [],_,h=>h
 |c::L,_,h=>z8 (L:=L) (h.alloc _)
theorem Ex:∀{L:List (Array Value×TypeId)} {w:World} (i:Nat) (h:i<L.length),Row (qG w L) (w.heap.size+i) L[i].2 L[i].1.toList
 |c::L,w,0,_=>show Row (qG (w.alloc (.cells c.1 c.2)) L) _ _ _ from(Row.new w c.1 c.2).gr (z8 (w:=w.alloc (.cells c.1 c.2)) (L:=L) (gfl _))
 |c::L,w,i+1,h=>by have:=Ex (L:=L) (w:=w.alloc (.cells c.1 c.2)) i (by simp at h;omega);rw[World.size_alloc,show w.heap.size+1+i=w.heap.size+(i+1) by omega] at this;exact this
def qt(b:Nat):List (Array Value×TypeId):=
 [(#[.slice (some ⟨b+4,0,none⟩) 2 2,.slice (some ⟨b+6,0,none⟩) 1 1,.slice (some ⟨b+7,0,none⟩) 2 2,.slice (some ⟨b+8,0,none⟩) 2 2,.slice (some ⟨b+9,0,none⟩) 1 1,.slice (some ⟨b+10,0,none⟩) 1 1,.slice (some ⟨b+11,0,none⟩) 1 1,.slice (some ⟨b+12,0,none⟩) 1 1,.slice none 0 0,.slice none 0 0,.slice (some ⟨b+14,0,none⟩) 1 1],34),
  (#[.int .i64 100],3),
  (#[.int .i64 0],3),
  (#[.int .i64 1,.int .i64 2],3),
  (#[.int .i64 1,.slice none 0 0,.slice (some ⟨b+1,0,none⟩) 1 1,.int .i64 0,.int .i64 0,.int .i64 3,.slice (some ⟨b+2,0,none⟩) 1 1,.slice (some ⟨b+3,0,none⟩) 2 2,.int .i64 0,.int .i64 0],130),
  (#[.int .i64 800,.int .i64 1000],3),
  (#[.int .i64 (-1),.slice (some ⟨b+5,0,none⟩) 2 2,.int .i64 0,.int .i64 0,.bool true],81),
  (#[.int .i64 0,.int .i64 0],3),
  (#[.int .i64 0,.int .i64 1],3),
  (#[.bool true],4),
  (#[.int .i64 0],3),
  (#[.bool true],4),
  (#[.int .i64 1],3),
  (#[.int .i64 100,.int .i64 800,.int .i64 200,.int .i64 1000],86),
  (#[.int .i64 1,.int .i64 0,.slice (some ⟨b+13,0,none⟩) 2 2],53)]
theorem Uo(w:World):Gr w (qG w (qt w.heap.size))/\Row (qG w (qt w.heap.size)) w.heap.size 34 [.slice (some ⟨w.heap.size+4,0,none⟩) 2 2,.slice (some ⟨w.heap.size+6,0,none⟩) 1 1,.slice (some ⟨w.heap.size+7,0,none⟩) 2 2,.slice (some ⟨w.heap.size+8,0,none⟩) 2 2,.slice (some ⟨w.heap.size+9,0,none⟩) 1 1,.slice (some ⟨w.heap.size+10,0,none⟩) 1 1,.slice (some ⟨w.heap.size+11,0,none⟩) 1 1,.slice (some ⟨w.heap.size+12,0,none⟩) 1 1,.slice none 0 0,.slice none 0 0,.slice (some ⟨w.heap.size+14,0,none⟩) 1 1]/\(kW w->xj (qG w (qt w.heap.size)) exL exP [0,0] [0,1] exA exB [] [] exC (some ⟨w.heap.size+4,0,none⟩) (some ⟨w.heap.size+6,0,none⟩) (some ⟨w.heap.size+7,0,none⟩) (some ⟨w.heap.size+8,0,none⟩) (some ⟨w.heap.size+9,0,none⟩) (some ⟨w.heap.size+10,0,none⟩) (some ⟨w.heap.size+11,0,none⟩) (some ⟨w.heap.size+12,0,none⟩) none none (some ⟨w.heap.size+14,0,none⟩) 1 1 1 1):=by
 have G:Gr w (qG w (qt w.heap.size)):=z8 (gfl _);have A:∀i (h:i<15),Row (qG w (qt w.heap.size)) (w.heap.size+i) ((qt w.heap.size)[i]'h).2 ((qt w.heap.size)[i]'h).1.toList:=fun i h=>Ex (L:=qt w.heap.size) i h;obtain⟨W,hW⟩:∃W,W=qG w (qt w.heap.size):=⟨_,rfl⟩;rw[<-hW] at G A ⊢;have R0:Row W (w.heap.size) 34 [.slice (some ⟨w.heap.size+4,0,none⟩) 2 2,.slice (some ⟨w.heap.size+6,0,none⟩) 1 1,.slice (some ⟨w.heap.size+7,0,none⟩) 2 2,.slice (some ⟨w.heap.size+8,0,none⟩) 2 2,.slice (some ⟨w.heap.size+9,0,none⟩) 1 1,.slice (some ⟨w.heap.size+10,0,none⟩) 1 1,.slice (some ⟨w.heap.size+11,0,none⟩) 1 1,.slice (some ⟨w.heap.size+12,0,none⟩) 1 1,.slice none 0 0,.slice none 0 0,.slice (some ⟨w.heap.size+14,0,none⟩) 1 1]:=A 0 (by decide);have R1:Row W (w.heap.size+1) 3 [.int .i64 100]:=A 1 (by decide);have R2:Row W (w.heap.size+2) 3 [.int .i64 0]:=A 2 (by decide);have R3:Row W (w.heap.size+3) 3 [.int .i64 1,.int .i64 2]:=A 3 (by decide);have R4:Row W (w.heap.size+4) 130 [.int .i64 1,.slice none 0 0,.slice (some ⟨w.heap.size+1,0,none⟩) 1 1,.int .i64 0,.int .i64 0,.int .i64 3,.slice (some ⟨w.heap.size+2,0,none⟩) 1 1,.slice (some ⟨w.heap.size+3,0,none⟩) 2 2,.int .i64 0,.int .i64 0]:=A 4 (by decide);have R5:Row W (w.heap.size+5) 3 [.int .i64 800,.int .i64 1000]:=A 5 (by decide);have R6:Row W (w.heap.size+6) 81 [.int .i64 (-1),.slice (some ⟨w.heap.size+5,0,none⟩) 2 2,.int .i64 0,.int .i64 0,.bool true]:=A 6 (by decide);have R7:Row W (w.heap.size+7) 3 [.int .i64 0,.int .i64 0]:=A 7 (by decide);have R8:Row W (w.heap.size+8) 3 [.int .i64 0,.int .i64 1]:=A 8 (by decide);have R9:Row W (w.heap.size+9) 4 [.bool true]:=A 9 (by decide);have Yt:Row W (w.heap.size+10) 3 [.int .i64 0]:=A 10 (by decide);have Yn:Row W (w.heap.size+11) 4 [.bool true]:=A 11 (by decide);have Yl:Row W (w.heap.size+12) 3 [.int .i64 1]:=A 12 (by decide);have U9:Row W (w.heap.size+13) 86 [.int .i64 100,.int .i64 800,.int .i64 200,.int .i64 1000]:=A 13 (by decide);have Ny:Row W (w.heap.size+14) 53 [.int .i64 1,.int .i64 0,.slice (some ⟨w.heap.size+13,0,none⟩) 2 2]:=A 14 (by decide);obtain⟨c0,c1,c2,c3,c4,c5,c6,c7,c8,c9⟩:W.cell? ⟨w.heap.size+4,0,none⟩=some (.int .i64 1)/\W.cell? ⟨w.heap.size+4,1,none⟩=some (.slice none 0 0)/\W.cell? ⟨w.heap.size+4,2,none⟩=some (.slice (some ⟨w.heap.size+1,0,none⟩) 1 1)/\W.cell? ⟨w.heap.size+4,3,none⟩=some (.int .i64 0)/\W.cell? ⟨w.heap.size+4,4,none⟩=some (.int .i64 0)/\W.cell? ⟨w.heap.size+4,5,none⟩=some (.int .i64 3)/\W.cell? ⟨w.heap.size+4,6,none⟩=some (.slice (some ⟨w.heap.size+2,0,none⟩) 1 1)/\W.cell? ⟨w.heap.size+4,7,none⟩=some (.slice (some ⟨w.heap.size+3,0,none⟩) 2 2)/\W.cell? ⟨w.heap.size+4,8,none⟩=some (.int .i64 0)/\W.cell? ⟨w.heap.size+4,9,none⟩=some (.int .i64 0):=⟨R4.cell 0 (by simp),R4.cell 1 (by simp),R4.cell 2 (by simp),R4.cell 3 (by simp),R4.cell 4 (by simp),R4.cell 5 (by simp),R4.cell 6 (by simp),R4.cell 7 (by simp),R4.cell 8 (by simp),R4.cell 9 (by simp)⟩;obtain⟨s0,s1,s2,s3,s4⟩:W.cell? ⟨w.heap.size+6,0,none⟩=some (.int .i64 (-1))/\W.cell? ⟨w.heap.size+6,1,none⟩=some (.slice (some ⟨w.heap.size+5,0,none⟩) 2 2)/\W.cell? ⟨w.heap.size+6,2,none⟩=some (.int .i64 0)/\W.cell? ⟨w.heap.size+6,3,none⟩=some (.int .i64 0)/\W.cell? ⟨w.heap.size+6,4,none⟩=some (.bool true):=⟨R6.cell 0 (by simp),R6.cell 1 (by simp),R6.cell 2 (by simp),R6.cell 3 (by simp),R6.cell 4 (by simp)⟩;obtain⟨p0,p1,p2,p3⟩:W.cell? ⟨w.heap.size+13,0,none⟩=some (.int .i64 100)/\W.cell? ⟨w.heap.size+13,1,none⟩=some (.int .i64 800)/\W.cell? ⟨w.heap.size+13,2,none⟩=some (.int .i64 200)/\W.cell? ⟨w.heap.size+13,3,none⟩=some (.int .i64 1000):=⟨U9.cell 0 (by simp),U9.cell 1 (by simp),U9.cell 2 (by simp),U9.cell 3 (by simp)⟩;obtain⟨x0,x1,x2⟩:W.cell? ⟨w.heap.size+14,0,none⟩=some (.int .i64 1)/\W.cell? ⟨w.heap.size+14,1,none⟩=some (.int .i64 0)/\W.cell? ⟨w.heap.size+14,2,none⟩=some (.slice (some ⟨w.heap.size+13,0,none⟩) 2 2):=⟨Ny.cell 0 (by simp),Ny.cell 1 (by simp),Ny.cell 2 (by simp)⟩;have wd:∀x:Int, -1<=x->x<=1000->aK x:=fun x h1 h2=>by unfold aK;omega
 have ws:∀xs:List Int,(∀x∈xs, -1<=x/\x<=1000)->∀x∈xs,aK x:=fun xs h x hx=>wd x (h x hx).1 (h x hx).2;refine⟨G,R0,fun ho=>⟨⟨fun k hk=>?_,fun k hk=>?_,ag.nil _ _ _ _,ag.nil _ _ _ _,fun k hk=>?_,by simp[Fit,exL],by simp[Fit,exP],by simp[Fit],by simp[Fit],by simp[Fit,exC],ho.gr G⟩,rx R7 rfl (ws _ (by simp)),rx R8 rfl (ws _ (by simp)),⟨Of R9 rfl,rx Yt rfl (ws _ (by simp[exA])),by simp[exA],by simp[exA],by simp[Fit,exA],by simp[Fit,exA]⟩,⟨Of Yn rfl,rx Yl rfl (ws _ (by simp[exB])),by simp[exB],by simp[exB],by simp[Fit,exB],by simp[Fit,exB]⟩⟩⟩
 ·have:k=0∨k=1:=by simp[exL] at hk;omega
  refine⟨_,0,rfl,?_⟩;rcases this with rfl|rfl
  ·exact⟨⟨c0,wd _ (by simp[exL,exP,exC]) (by simp[exL,exP,exC])⟩,⟨none,0,c1,Nat.le_refl _,by simp[Fit,exL],ag.nil _ _ _ _⟩,⟨_,1,c2,Nat.le_refl _,by simp[Fit,exL],rx R1 rfl (ws _ (by simp[exL]))⟩,⟨c3,wd _ (by simp[exL,exP,exC]) (by simp[exL,exP,exC])⟩,⟨c4,wd _ (by simp[exL,exP,exC]) (by simp[exL,exP,exC])⟩⟩
  exact⟨⟨c5,wd _ (by simp[exL,exP,exC]) (by simp[exL,exP,exC])⟩,⟨_,1,c6,Nat.le_refl _,by simp[Fit,exL],rx R2 rfl (ws _ (by simp[exL]))⟩,⟨_,2,c7,Nat.le_refl _,by simp[Fit,exL],rx R3 rfl (ws _ (by simp[exL]))⟩,⟨c8,wd _ (by simp[exL,exP,exC]) (by simp[exL,exP,exC])⟩,⟨c9,wd _ (by simp[exL,exP,exC]) (by simp[exL,exP,exC])⟩⟩
 ·have:k=0:=by simp[exP] at hk;omega
  subst this;exact⟨_,0,rfl,⟨s0,wd _ (by simp[exL,exP,exC]) (by simp[exL,exP,exC])⟩,⟨_,2,s1,Nat.le_refl _,by simp[Fit,exP],rx R5 rfl (ws _ (by simp[exP]))⟩,⟨s2,wd _ (by simp[exL,exP,exC]) (by simp[exL,exP,exC])⟩,⟨s3,wd _ (by simp[exL,exP,exC]) (by simp[exL,exP,exC])⟩,s4⟩
 have:k=0:=by simp[exC] at hk;omega
 subst this;refine⟨_,0,rfl,⟨x0,wd _ (by simp[exL,exP,exC]) (by simp[exL,exP,exC])⟩,⟨x1,wd _ (by simp[exL,exP,exC]) (by simp[exL,exP,exC])⟩,_,2,x2,Nat.le_refl _,by simp[Fit,exC],fun j hj=>?_⟩;have:j=0∨j=1:=by simp[exC] at hj;omega
 refine⟨_,0,rfl,?_⟩;rcases this with rfl|rfl
 ·exact⟨⟨p0,wd _ (by simp[exL,exP,exC]) (by simp[exL,exP,exC])⟩,p1,wd _ (by simp[exL,exP,exC]) (by simp[exL,exP,exC])⟩
 exact⟨⟨p2,wd _ (by simp[exL,exP,exC]) (by simp[exL,exP,exC])⟩,p3,wd _ (by simp[exL,exP,exC]) (by simp[exL,exP,exC])⟩
theorem OG{a:Array Value}{W:World}{BR:Nat}{vs:List Value}(h2:a.getD 0 undef= .pointer (some ⟨BR,0,none⟩))(hr:Row W BR 34 vs)(hl:vs.length=11):(results Tryz.f59 a).run Tryz.prog W= .ok (.agg vs.toArray) W:=by
 have hi:(Tryz.prog.info? 34).map (·.size)=some 11:=by kernel_rfl
 have hv:=run_loadVar_row (P:=Tryz.prog) W BR 34 34 vs.toArray (0,0) _ hr Tryz.underlying34 rfl (by rw[hi];simp[hl]);have h3:a[0]?.getD undef= .pointer (some ⟨BR,0,none⟩):=by simpa using h2
 simp[results,Tryz.results59,h3,Sem.run_bind,hv,asAddr]
theorem Mc(w:World):Calls Tryz.prog 59 #[] w (Wp w):=by go_enter Tryz.func59,Tryz.ntmps59;go_wp2_with fail;have E:=Uo w;refine bodyPost_ret (OG rfl E.2.1 rfl) rfl ?_;exact⟨_,_,_,_,_,_,_,_,_,rfl,E.2.2,E.1⟩
theorem NU{W:World}{B T:Nat}{x0 x1 x2 y0 y1 y2:Int}(r:Row W B T [.int .i64 x0,.int .i64 x1,.int .i64 x2,.int .i64 y0,.int .i64 y1,.int .i64 y2])(hw:aK x0/\aK x1/\aK x2/\aK y0/\aK y1/\aK y2):ag 3 dY W (some ⟨B,0,none⟩) [⟨x0,x1,x2⟩,⟨y0,y1,y2⟩]:=by
 intro k hk;refine⟨B,0,rfl,?_⟩;obtain⟨w0,w1,w2,w3,w4,w5⟩:=hw;have c0:=r.cell 0 (by simp);have c1:=r.cell 1 (by simp);have c2:=r.cell 2 (by simp);have c3:=r.cell 3 (by simp);have c4:=r.cell 4 (by simp);have c5:=r.cell 5 (by simp);simp only[List.getElem_cons_zero,List.getElem_cons_succ] at c0 c1 c2 c3 c4 c5;have:k=0∨k=1:=by simp at hk;omega
 rcases this with rfl|rfl
 ·exact⟨⟨c0,w0⟩,⟨c1,w1⟩,c2,w2⟩
 exact⟨⟨c3,w3⟩,⟨c4,w4⟩,c5,w5⟩
theorem Vd{W:World}{Y:Nat}{ty:TypeId}{u0 u1 u2:Value}(r:Row W Y ty [u0,u1,u2]):W.cell? ⟨Y,0,none⟩=some u0/\W.cell? ⟨Y,1,none⟩=some u1/\W.cell? ⟨Y,2,none⟩=some u2/\Has W Y:=⟨r.cell 0 (by simp),r.cell 1 (by simp),r.cell 2 (by simp),r.has⟩
theorem tj(w:World)(ho:kW w):Calls Tryz.prog 12 #[] w (aN w (.bool true)):=by
 go_enter Tryz.func12,Tryz.ntmps12;go_wp2_with fail;refine(Mc w).mono ?_;rintro e w1 ⟨al,ap,af,at2,a1,a2,a3,a4,ac,rfl,hw,hg⟩;have E1:=aa (hw ho);have G1:=aa hg;clear hw hg ho;go_upto_region 2 with fail;obtain⟨w2,nA⟩:∃w2:World,Hid (w2=w1.alloc (.cells #[.slice al 2 2,.slice ap 1 1,.slice af 2 2,.slice at2 2 2,.slice a1 1 1,.slice a2 1 1,.slice a3 1 1,.slice a4 1 1,.slice none 0 0,.slice none 0 0,.slice ac 1 1] 34)):=⟨_,aa rfl⟩;obtain⟨B1,hB1⟩:∃B1:Nat,Hid (w1.heap.size=B1):=⟨_,aa rfl⟩;rw[<-nA.out,hB1.out];have R2:Hid (Row w2 B1 34 [.slice al 2 2,.slice ap 1 1,.slice af 2 2,.slice at2 2 2,.slice a1 1 1,.slice a2 1 1,.slice a3 1 1,.slice a4 1 1,.slice none 0 0,.slice none 0 0,.slice ac 1 1]):=aa (by rw[nA.out,<-hB1.out];exact Row.new w1 _ _);have H2:Hid (Gr w1 w2):=aa (by rw[nA.out];exact(gfl _).alloc _);have E2:=aa (E1.out.gr H2.out);have G2:=aa (G1.out.trans H2.out);clear nA hB1 H2 E1 G1;have P1:=tQ exL exP [0,0] [0,1] exA exB [] [] exC al ap af at2 a1 a2 a3 a4 none none ac 2 1 2 2 1 1 1 1 0 0 1 w2 E2.out.env E2.out.sf E2.out.st (by simp[Fit]) (by simp[Fit]) E2.out.ra E2.out.rb;rw[Vf.1,Vf.2] at P1;have P1H:=aa P1;clear P1;obtain⟨x0,x1,x2,x3,x4,x5,x6,x7,x8,x9,fN,xh⟩:=gn R2.out;go_wp2_with fail;clear x0 x1 x2 x3 x4 x5 x6 x7 x8 x9 fN xh;refine P1H.out.mono ?_;rintro e w3 ⟨u1,g1,rfl, -,hs,hg⟩;have S1:=aa hs;have R3:=aa (R2.out.gr hg);have E3:=aa (E2.out.gr hg);have G3:=aa (G2.out.trans hg);clear hs hg P1H R2 E2 G2;have P2:=tQ exL exP [0,1] [0,0] exB exA [] [] exC al ap at2 af a3 a4 a1 a2 none none ac 2 1 2 2 1 1 1 1 0 0 1 w3 E3.out.env E3.out.st E3.out.sf (by simp[Fit]) (by simp[Fit]) E3.out.rb E3.out.ra;rw[Oa.1,Oa.2] at P2;have P2H:=aa P2;clear P2;obtain⟨x0,x1,x2,x3,x4,x5,x6,x7,x8,x9,fN,xh⟩:=gn R3.out;go_wp2_with fail;clear x0 x1 x2 x3 x4 x5 x6 x7 x8 x9 fN xh;refine P2H.out.mono ?_;rintro e w4 ⟨u2,g2,rfl, -,hs,hg⟩;have S2:=aa hs;have YX:=aa (S1.out.gr dY.mono hg);have G4:=aa (G3.out.trans hg);clear hs hg P2H R3 E3 G3 S1;go_wp2_with fail;obtain⟨W5,hW5⟩:∃W5:World,W5=(((((w4.alloc (.cells #[.int .i64 2,.int .i64 0,.int .i64 1] 42)).alloc (.cells #[.int .i64 1,.int .i64 1,.int .i64 1] 42)).alloc (.cells #[.int .i64 1,.int .i64 1,.int .i64 0] 42)).alloc (.cells #[.int .i64 2,.int .i64 0,.int .i64 0] 42)).alloc (.cells #[.int .i64 2,.int .i64 0,.int .i64 1,.int .i64 1,.int .i64 1,.int .i64 1] 42)):=⟨_,rfl⟩;have G5:Hid (Gr w4 W5):=aa (by rw[hW5];exact(((((gfl _).alloc _).alloc _).alloc _).alloc _).alloc _);have RL:Hid (Row W5 (w4.heap.size+1+1+1+1) 42 [.int .i64 2,.int .i64 0,.int .i64 1,.int .i64 1,.int .i64 1,.int .i64 1]):=aa (by have:=Row.new ((((w4.alloc (.cells #[.int .i64 2,.int .i64 0,.int .i64 1] 42)).alloc (.cells #[.int .i64 1,.int .i64 1,.int .i64 1] 42)).alloc (.cells #[.int .i64 1,.int .i64 1,.int .i64 0] 42)).alloc (.cells #[.int .i64 2,.int .i64 0,.int .i64 0] 42)) #[.int .i64 2,.int .i64 0,.int .i64 1,.int .i64 1,.int .i64 1,.int .i64 1] 42;simp only[World.size_alloc] at this;rw[hW5];exact this)
 have RX:Hid (Row W5 (w4.heap.size+1+1) 42 [.int .i64 1,.int .i64 1,.int .i64 0]):=aa (by have:=Row.new ((w4.alloc (.cells #[.int .i64 2,.int .i64 0,.int .i64 1] 42)).alloc (.cells #[.int .i64 1,.int .i64 1,.int .i64 1] 42)) #[.int .i64 1,.int .i64 1,.int .i64 0] 42;simp only[World.size_alloc] at this;rw[hW5];exact(this.alloc _).alloc _)
 have RY:Hid (Row W5 (w4.heap.size+1+1+1) 42 [.int .i64 2,.int .i64 0,.int .i64 0]):=aa (by have:=Row.new (((w4.alloc (.cells #[.int .i64 2,.int .i64 0,.int .i64 1] 42)).alloc (.cells #[.int .i64 1,.int .i64 1,.int .i64 1] 42)).alloc (.cells #[.int .i64 1,.int .i64 1,.int .i64 0] 42)) #[.int .i64 2,.int .i64 0,.int .i64 0] 42;simp only[World.size_alloc] at this;rw[hW5];exact this.alloc _)
 rw[<-hW5];clear hW5;refine(rX [⟨2,0,1⟩,⟨1,1,1⟩] u1 (some ⟨w4.heap.size+1+1+1+1,0,none⟩) g1 2 W5 (YX.out.gr dY.mono G5.out) (NU RL.out (by simp[aK])) (by simp[Fit])).mono ?_;rintro e w6 ⟨rfl,hg⟩;have G6:=aa (G5.out.trans hg);obtain⟨c0,c1,c2,ch⟩:=Vd (RX.out.gr hg);obtain⟨d0,d1,d2,dh⟩:=Vd (RY.out.gr hg);clear hg G5 RL RX RY;go_wp2_with fail;clear c0 c1 c2 ch d0 d1 d2 dh;refine(rX [⟨1,1,0⟩,⟨2,0,0⟩] u2 (some ⟨w6.heap.size,0,none⟩) g2 2 _ (S2.out.gr dY.mono (G6.out.alloc _)) (NU (Row.new w6 #[.int .i64 1,.int .i64 1,.int .i64 0,.int .i64 2,.int .i64 0,.int .i64 0] 42) (by simp[aK])) (by simp[Fit])).mono ?_;rintro e w7 ⟨rfl,hg⟩;have G7:=aa (((G4.out.trans G6.out).alloc _).trans hg);clear hg;go_wp2_with fail;go_ret;exact⟨rfl,G7.out⟩
theorem Ng{W:World}{B T o:Nat}{vs:List Value}{v:Value}{a1 a2:Option Addr}{c1 c2:Nat}{r:Rls}(h:RlA W a1 a2 c1 c2 r)(hr:Row W B T vs)(hz:qD vs):RlA (W.setCell ⟨B,o,none⟩ v) a1 a2 c1 c2 r:=
 ⟨uC h.on hr hz.2,Bf h.lv hr hz.1,h.k1,h.k2,h.f1,h.f2⟩
theorem TM{W:World}{B T o o2:Nat}{vs:List Value}{v v2:Value}{a1 a2:Option Addr}{c1 c2:Nat}{r:Rls}(h:RlA W a1 a2 c1 c2 r)(hr:Row W B T vs)(hz:qD vs)(cN:qD (vs.set o v)):RlA ((W.setCell ⟨B,o,none⟩ v).setCell ⟨B,o2,none⟩ v2) a1 a2 c1 c2 r:=
 Ng (Ng h hr hz) (hr.set o v) cN
theorem nL{P:Program}{ops:Array Oper}{rest:List Oper}{o:Oper}{a:Act}{w:World}{Q:Exit->Act->World->Prop}(hw:Region.wanted o (yielded ops a.tmps)=true)(s x:Operand)(t:TypeId)
  (ho:o.op= .call {callee:= .builtin .append,args:= #[s,x],argTypes:= #[t,t]}) (base:Nat) (e:TypeId) (i:TypeInfo) (z:Value) (size bytes:Nat) (ht:P.underlying t=some (.slice e)) (hi:P.info? e=some i) (hz:i.zero=some z) (hs:i.size=size) (hb:i.bytes=bytes) (vQ:z.cells.size=size) (h0:0<size)
  (v:Value) (n:Nat) (xs:List Value) (hv:a.eval s=v) (aV:w.ownsRow base e size v n xs) (A:Option Addr) (m c:Nat) (dZ:List Value) (hx:a.eval x= .slice A m c) (hg:yT w A m size dZ) (h1:∀u∈dZ,u.oneCell'=true) (v8:n+m<=maxLen) (lB:(n+m)*bytes<=140737488355328) (kR:base<=w.heap.size)
  (h:∀v' w',w'.ownsRow base e size v' (n+m) (xs++dZ)->w.grownBy w' v.ownBlock->(v'.ownBlock=v.ownBlock∨v'.ownBlock=some w.heap.size)->wpList P ops Q rest (a.put o.dst v') w'):wpList P ops Q (o::rest) a w:=
 BigFrame.wpList_want hw fun _ hK=>sS w s x t ho base e i z size bytes ht hi hz hs hb vQ h0 v n xs hv aV A m c dZ hx hg h1 v8 lB kR fun v' w' q1 q2 q3=>hK _ _ (h v' w' q1 q2 q3)
theorem Ud{w:World}{b o:Nat}{v:Value}(h:kW w)(hb:b≠0):kW (w.setCell ⟨b,o,none⟩ v):=by
 have key:∀{q:Nat} {u:Value},w.cell? ⟨0,q,none⟩=some u->(w.setCell ⟨b,o,none⟩ v).cell? ⟨0,q,none⟩=some u:=fun hq=>by
  rw[World.cell?_setCell_other]
  ·exact hq
  intro e;exact hb (congrArg Addr.block e)
 exact⟨key h.1,key h.2⟩
theorem Up{w:World}(h:kW w):0<w.heap.size:=ae h.1
theorem QU{l:List Clk}{p:List Sup}{f t:List Int}{a b:Rls}{ms:List Lmt}{d:List Drw}(k:Vg l p f t ms d)(ha:bi p a d)(hb:bi p b d):iF l p f t a b ms d []=plE l ms f t:=by
 have hs:fU l p []:=⟨k.cz,k.pz,by simp,fun x hx=>by simp at hx⟩;have wf:j5 l p f a ms d []:=⟨hs,k.sf,ha.2.1,k.mz,k.dz⟩;have wt:j5 l p t b ms d []:=⟨hs,k.st,hb.2.1,k.mz,k.dz⟩;unfold iF;rw[if_pos ⟨wf,wt⟩];by_cases hc:aG l ms f=true/\aG l ms t=true
 ·have sf:j3 l p f a ms d []:=⟨hc.1,ha,fun x hx=>by simp at hx⟩;have st:j3 l p t b ms d []:=⟨hc.2,hb,fun x hx=>by simp at hx⟩;rw[if_pos ⟨sf,st⟩];by_cases hp:plE l ms f t=0
  ·rw[if_pos hp];have yF:=J9 hp;have hl:iG (fz l (bK f (plW l ms f t))) d []=d:=by simp[iG]
   have hr:rsE l p (bK f (plW l ms f t)) d []=0:=by unfold rsE;rw[if_pos ⟨hs,k.dz,fun s h=>by obtain⟨i,hi,rfl⟩:=List.getElem_of_mem h;exact yF.ok i hi⟩,if_neg (by rintro⟨x,hx,_⟩;simp at hx),hl,if_neg (by have:=k.dz.2.1;omega)]
   rw[if_pos hr,hp];have:si l p f t ms d []=d:=by unfold si rsL;rw[if_pos hr,hl]
   rw[this];exact zV ha
  rw[if_neg hp]
 have hn:¬(j3 l p f a ms d []/\j3 l p t b ms d []):=fun q=>hc ⟨q.1.1,q.2.1⟩;rw[if_neg hn];have h7:ju l ms f t=7:=by unfold ju;rw[if_pos k.cz,if_pos ⟨k.mz,k.sf,k.st⟩,if_neg hc]
 rw[(uD (by rw[h7];decide)).1,h7]
theorem KI{l:List Clk}{p:List Sup}{f t:List Int}{a b:Rls}{ms:List Lmt}{d:List Drw}(h:iF l p f t a b ms d []=0):rJ l p f t a b ms d []=ip p a (ip p (lO p d) b):=by
 unfold iF at h;split at h
 ·split at h
  ·split at h
   ·split at h
    ·rename_i hr;unfold rJ si rsL;rw[if_pos hr];simp[iG]
    rename_i hr;exact absurd h hr
   rename_i hr;exact absurd h hr
  cases h
 cases h
theorem Wi{lo:Nat}{w:World}{a:Option Addr}{ps:List (Int×Int)}(h:F9 lo w a ps):ag 3 RWc w a ps:=ag.lo h
theorem Pw(a:Option Addr)(len cap:Nat)(zs:List Int)(w:World)(h:IU w a len cap zs)(qS:kW w):
  Calls Tryz.prog 5 #[.slice a len cap] w (aN w (.bool true)):=by
 have H:=aa h;have HO:=aa qS;obtain⟨i0,hi,dt,da,cN⟩:=info_parts ya;clear h qS;go_enter Tryz.func5,Tryz.ntmps5;go_wp2_with fail;refine(Mt w a len cap zs H.out).mono ?_;rintro e w1 ⟨b,n,rfl,T,hg,hb,_⟩;have HT:Hid (Tp w1 b n):=aa ⟨_,T⟩;have HB:=aa T.has;have G1:=aa hg;have LB:=aa hb;have OH:Hid (gP b w1 kW):=aa (fun q=>Ud (HO.out.gr hg) (by have:=Up HO.out;omega));clear T hg hb;go_wp2_with fail;refine(TV w1 b n HT.out OH.out).mono ?_;rintro e w2 ⟨l,p,f,t,A,Bq,ms,d,c,al,ap,af,at2,a1,a2,a3,a4,am,ad,ac,cl,cp,cf,ct,k1,k2,k3,k4,cm,cd,cc,rfl,hW,hk,hm⟩;have T2:=aa (hm.tp HT.out);have B2:=aa T2.out.has;have G2:Hid (Gr w w2):=aa (Mv.out G1.out hm LB.out);have HW:=aa hW;have K:=aa hk;clear hW hk hm HT OH;go_upto_region 3 with fail;obtain⟨w3,xZ⟩:∃w3:World,Hid (w3=w2.alloc (.cells #[.slice al l.length cl,.slice ap p.length cp,.slice af f.length cf,.slice at2 t.length ct,.slice a1 A.on.length k1,.slice a2 A.level.length k2,.slice a3 Bq.on.length k3,.slice a4 Bq.level.length k4,.slice am ms.length cm,.slice ad d.length cd,.slice ac c.length cc] 34)):=⟨_,aa rfl⟩;obtain⟨B4,hB4⟩:∃B4:Nat,Hid (w2.heap.size=B4):=⟨_,aa rfl⟩;rw[<-xZ.out,hB4.out];have R3:Hid (Row w3 B4 34 [.slice al l.length cl,.slice ap p.length cp,.slice af f.length cf,.slice at2 t.length ct,.slice a1 A.on.length k1,.slice a2 A.level.length k2,.slice a3 Bq.on.length k3,.slice a4 Bq.level.length k4,.slice am ms.length cm,.slice ad d.length cd,.slice ac c.length cc]):=aa (by rw[xZ.out,<-hB4.out];exact Row.new w2 _ _);have M3:Hid (Mv b n w2 w3):=aa (by rw[xZ.out];exact(Mv.refl T2.out).alloc _);have lB4:Hid (w2.heap.size<=B4):=aa (by rw[hB4.out];exact Nat.le_refl _);have bB4:Hid (b<B4):=aa (by have:=B2.out;have:=lB4.out;omega);clear xZ hB4;obtain⟨x0,x1,x2,x3,x4,x5,x6,x7,x8,x9,fN,xh⟩:=gn R3.out;have xf:=R3.out.free 10;go_upto_region 4 with fail;obtain⟨w4,hw4⟩:∃w4:World,Hid (w4=w3.setCell ⟨B4,10,none⟩ (.slice none 0 0)):=⟨_,aa rfl⟩;rw[<-hw4.out];have R4:Hid (Row w4 B4 34 [.slice al l.length cl,.slice ap p.length cp,.slice af f.length cf,.slice at2 t.length ct,.slice a1 A.on.length k1,.slice a2 A.level.length k2,.slice a3 Bq.on.length k3,.slice a4 Bq.level.length k4,.slice am ms.length cm,.slice ad d.length cd,.slice none 0 0]):=aa (by rw[hw4.out];exact R3.out.set 10 _);have M4:Hid (Mv b n w2 w4):=aa (by rw[hw4.out];exact M3.out.setc lB4.out);clear hw4 x0 x1 x2 x3 x4 x5 x6 x7 x8 x9 fN xh xf R3 M3;have WA:Hid (∀W,Mv b n w2 W->xj W l p f t A Bq ms d c al ap af at2 a1 a2 a3 a4 am ad ac k1 k2 k3 k4):=aa (fun W m=>(HW.out.mv B2.out m (fun _ _ hg h=>h.gr hg)).now (m.tp T2.out));have HSp:Hid (∀W,Mv b n w2 W->gP b W (fun W=>ag 5 bG W ap p)):=aa (fun W m=>fun q=>(HW.out.mv B2.out m (fun _ _ hg h=>h.gr hg) q).env.sups);have HDr:Hid (∀W,Mv b n w2 W->gP b W (fun W=>ag 4 cX W ad d)):=aa (fun W m=>fun q=>(HW.out.mv B2.out m (fun _ _ hg h=>h.gr hg) q).env.drws);have T4:=aa (M4.out.tp T2.out);obtain⟨x0,x1,x2,x3,x4,x5,x6,x7,x8,x9,fN,xh⟩:=gn R4.out;go_wp2_with fail;clear x0 x1 x2 x3 x4 x5 x6 x7 x8 x9 fN xh;refine(wP p d ap ad cp cd w4 b n T4.out (HSp.out w4 M4.out) (HDr.out w4 M4.out) K.out.dz (by have:=K.out.p1;omega)).mono ?_;rintro e w5 ⟨r,v,ok,rfl,⟨z1,z2,g1,g2,rfl,gl1,gl2,nG,ke⟩,hmt,hm,ff1,ff2⟩;have M5:=aa (M4.out.trans B2.out hm);have R5:=aa (hm.row R4.out (by have:=bB4.out;omega));have T5:=aa (hm.tp T4.out);have RA5:Hid (RlH b w5 z1 z2 g1 g2 r):=aa ⟨nG,ke,gl1,gl2,ff1,ff2⟩;have MA:=aa hmt;clear nG ke gl1 gl2 ff1 ff2 hmt hm R4 M4 T4;go_upto_region 5 with fail;obtain⟨w6,Fb⟩:∃w6:World,Hid (w6=w5.alloc (.cells #[.slice z1 r.on.length g1,.slice z2 r.level.length g2] 29)):=⟨_,aa rfl⟩;obtain⟨B5,hB5⟩:∃B5:Nat,Hid (w5.heap.size=B5):=⟨_,aa rfl⟩;rw[<-Fb.out,hB5.out];have H6:Hid (Gr w5 w6):=aa (by rw[Fb.out];exact(gfl _).alloc _);have RX6:Hid (Row w6 B5 29 [.slice z1 r.on.length g1,.slice z2 r.level.length g2]):=aa (by rw[Fb.out,<-hB5.out];exact Row.new w5 _ _);have M6:=aa (M5.out.gr H6.out);have R6:=aa (R5.out.gr H6.out);have T6:=aa (M6.out.tp T2.out);have RA6:=aa (RA5.out.gr T5.out.has H6.out);have bB5:Hid (b<B5):=aa (by rw[<-hB5.out];exact T5.out.has);clear Fb hB5 H6 M5 R5 T5 RA5;obtain⟨x0,x1,x2,x3,x4,x5,x6,x7,x8,x9,fN,xh⟩:=gn R6.out;go_wp2_with fail;clear x0 x1 x2 x3 x4 x5 x6 x7 x8 x9 fN xh;refine(wP p d ap ad cp cd w6 b n T6.out (HSp.out w6 M6.out) (HDr.out w6 M6.out) K.out.dz (by have:=K.out.p1;omega)).mono ?_;rintro e w7 ⟨q,v,ok2,rfl,⟨y1,y2,e1,e2,rfl,gl1,gl2,nG,ke⟩,hmt,hm,ff1,ff2⟩;have M7:=aa (M6.out.trans B2.out hm);have R7:=aa (hm.row R6.out (by have:=bB4.out;omega));have RX7:=aa (hm.row RX6.out (by have:=bB5.out;omega));have T7:=aa (hm.tp T6.out);have RA7:=aa (RA6.out.mvd T6.out.has hm);have RB7:Hid (RlH b w7 y1 y2 e1 e2 q):=aa ⟨nG,ke,gl1,gl2,ff1,ff2⟩;have MB:=aa hmt;clear nG ke gl1 gl2 ff1 ff2 hmt hm R6 M6 T6 RX6 RA6;go_upto_region 6 with fail;obtain⟨w8,Fg⟩:∃w8:World,Hid (w8=w7.alloc (.cells #[.slice y1 q.on.length e1,.slice y2 q.level.length e2] 29)):=⟨_,aa rfl⟩;obtain⟨B7,hB7⟩:∃B7:Nat,Hid (w7.heap.size=B7):=⟨_,aa rfl⟩;rw[<-Fg.out,hB7.out];have H8:Hid (Gr w7 w8):=aa (by rw[Fg.out];exact(gfl _).alloc _);have RY8:Hid (Row w8 B7 29 [.slice y1 q.on.length e1,.slice y2 q.level.length e2]):=aa (by rw[Fg.out,<-hB7.out];exact Row.new w7 _ _);have RX8:=aa (RX7.out.gr H8.out);have M8:=aa (M7.out.gr H8.out);have R8:=aa (R7.out.gr H8.out);have T8:=aa (M8.out.tp T2.out);have WD:=aa (WA.out w8 M8.out);have RA:Hid (RlA w8 z1 z2 g1 g2 r):=aa (by have:=RA7.out.gr T7.out.has H8.out;exact⟨this.on.now T8.out,this.lv.now T8.out,this.k1,this.k2,this.f1,this.f2⟩);have RB:Hid (RlA w8 y1 y2 e1 e2 q):=aa (by have:=RB7.out.gr T7.out.has H8.out;exact⟨this.on.now T8.out,this.lv.now T8.out,this.k1,this.k2,this.f1,this.f2⟩);have G8:Hid (Gr w w8):=aa (Mv.out G2.out M8.out LB.out);clear Fg hB7 H8 M7 R7 T7 RX7 RA7 RB7 M8 T8 WA HSp HDr HW T2 G1 HB HO H;cases ok
 ·go_wp2_with fail;refine(tj w8 WD.out.env.off).mono ?_;rintro e w9 ⟨rfl,hg⟩;have G9:=aa (G8.out.trans hg);clear hg;go_wp2_with fail;go_ret;exact⟨rfl,G9.out⟩
 cases ok2
 ·go_wp2_with fail;refine(tj w8 WD.out.env.off).mono ?_;rintro e w9 ⟨rfl,hg⟩;have G9:=aa (G8.out.trans hg);clear hg;go_wp2_with fail;go_ret;exact⟨rfl,G9.out⟩
 have ma:=aa (MA.out rfl);have mb:=aa (MB.out rfl);have E0:Hid (AS w8 l p ms d [] al ap am ad none):=aa ⟨WD.out.env.clks,WD.out.env.sups,WD.out.env.lmts,WD.out.env.drws,ag.nil _ _ _ _,WD.out.env.fl,WD.out.env.fp,WD.out.env.fm,WD.out.env.fd,by simp[Fit],WD.out.env.off⟩;have lf:Hid (Fit f.length/\Fit t.length/\f.length<=16/\p.length<=16):=aa (by have h1:=K.out.sf.1;have h2:=K.out.st.1;have h3:=cg (bm K.out.cz).1;have h4:=p9 ma.out.2.1;unfold Fit;omega)
 have PC:=tQ l p f t r q ms d [] al ap af at2 z1 z2 y1 y2 am ad none cl cp cf ct g1 g2 e1 e2 cm cd 0 w8 E0.out WD.out.sf WD.out.st lf.out.1 lf.out.2.1 RA.out RB.out;have EQ:=aa (QU K.out ma.out mb.out);rw[EQ.out] at PC;obtain⟨PL,hPL⟩:∃PL,sW l p f t r q ms d []=PL:=⟨_,rfl⟩;rw[hPL] at PC;obtain⟨PE,hPE⟩:∃PE,plE l ms f t=PE:=⟨_,rfl⟩;rw[hPE] at PC;have HPL:=aa hPL;have HPE:=aa hPE;have PCH:=aa PC;clear PC hPL hPE MA MB;obtain⟨x0,x1,x2,x3,x4,x5,x6,x7,x8,x9,fN,xh⟩:=gn R8.out;obtain⟨u0,u1,uh⟩:=ce RX8.out;obtain⟨v0,v1,vh⟩:=ce RY8.out;go_wp2_with fail;clear x0 x1 x2 x3 x4 x5 x6 x7 x8 x9 fN xh u0 u1 uh v0 v1 vh;refine PCH.out.mono ?_;rintro e w9 ⟨aP,cP,rfl,hlP,hsP,hg⟩;have H9:=aa hg;have SP9:=aa hsP;clear hlP hsP hg PCH;have RC:=J3 l ms f t al am af at2 cl cm cf ct w9 ⟨E0.out.clks.gr cY.mono H9.out,E0.out.fl,E0.out.lmts.gr lQ.mono H9.out,E0.out.fm,WD.out.sf.giI H9.out,lf.out.1,WD.out.st.giI H9.out,lf.out.2.1,E0.out.off.gr H9.out⟩;rw[HPE.out] at RC;obtain⟨PW,hPW⟩:∃PW,plW l ms f t=PW:=⟨_,rfl⟩;rw[hPW] at RC;have HPW:=aa hPW;have RCH:=aa RC;clear RC hPW;obtain⟨x0,x1,x2,x3,x4,x5,x6,x7,x8,x9,fN,xh⟩:=gn (R8.out.gr H9.out);go_wp2_with fail;clear x0 x1 x2 x3 x4 x5 x6 x7 x8 x9 fN xh;refine RCH.out.mono ?_;rintro e RH ⟨aM,cM,rfl,hwM,hg⟩;have FH:=aa (H9.out.trans hg);have SP10:=aa (SP9.out.gr dY.mono hg);have WM:=aa hwM;clear hwM hg RCH SP9 H9;by_cases hz:PE=0
 ·subst hz;have hE:iF l p f t r q ms d []=0:=EQ.out.trans HPE.out;have kk:=aa (Uy hE);have LE:=aa (zV ma.out);have TOP:=aa (KI hE);have LC:=IC p d ap ad cp cd RH (E0.out.sups.gr bG.mono FH.out) E0.out.fp (E0.out.drws.gr cX.mono FH.out) E0.out.fd;unfold Jd at LC;rw[LE.out] at LC;obtain⟨LP,hLP⟩:∃LP,lO p d=LP:=⟨_,rfl⟩;rw[hLP] at LC TOP;obtain⟨T,hT⟩:∃T,rJ l p f t r q ms d []=T:=⟨_,rfl⟩;rw[hT] at kk TOP;have LCH:=aa LC;clear LC hE hLP hT;obtain⟨T0,hT0⟩:∃T0,ip p LP q=T0:=⟨_,rfl⟩;rw[hT0] at TOP;have HT0:=aa hT0;clear hT0;obtain⟨x0,x1,x2,x3,x4,x5,x6,x7,x8,x9,fN,xh⟩:=gn (R8.out.gr FH.out);obtain⟨u0,u1,uh⟩:=ce (RX8.out.gr FH.out);obtain⟨v0,v1,vh⟩:=ce (RY8.out.gr FH.out);go_wp2_with fail;clear x0 x1 x2 x3 x4 x5 x6 x7 x8 x9 fN xh u0 u1 uh v0 v1 vh;refine LCH.out.mono ?_;rintro e Nu ⟨v,rfl,⟨m1,m2,n1,n2,rfl,sm1,sm2,sm3,sm4,sm5,sm6⟩,hg, -⟩;have XT:=aa (FH.out.trans hg);have SP11:=aa (SP10.out.gr dY.mono hg);have WM11:=aa (WM.out.gr hg);have RL11:Hid (RlA Nu m1 m2 n1 n2 LP):=aa ⟨sm1,sm2,sm3,sm5,sm4,sm6⟩;clear sm1 sm2 sm3 sm4 sm5 sm6 hg LCH SP10 WM FH;go_upto_region 13 with fail;obtain⟨Tm,Qo⟩:∃Tm:World,Hid (Tm=Nu.alloc (.cells #[.slice m1 LP.on.length n1,.slice m2 LP.level.length n2] 29)):=⟨_,aa rfl⟩;obtain⟨WH,hB13⟩:∃WH:Nat,Hid (Nu.heap.size=WH):=⟨_,aa rfl⟩;rw[<-Qo.out,hB13.out];have Ts:Hid (Gr Nu Tm):=aa (by rw[Qo.out];exact(gfl _).alloc _);have RM12:Hid (Row Tm WH 29 [.slice m1 LP.on.length n1,.slice m2 LP.level.length n2]):=aa (by rw[Qo.out,<-hB13.out];exact Row.new Nu _ _);have Gv:=aa (XT.out.trans Ts.out);have SP12:=aa (SP11.out.gr dY.mono Ts.out);have WM12:=aa (WM11.out.gr Ts.out);have RL12:=aa (RL11.out.gr Ts.out);clear Qo hB13 Ts SP11 WM11 RL11 XT;have JC:=xM p LP q ap m1 m2 y1 y2 cp n1 n2 e1 e2 Tm (E0.out.sups.gr bG.mono Gv.out) E0.out.fp RL12.out.on RL12.out.lv (RB.out.on.giB Gv.out) (RB.out.lv.giI Gv.out) RL12.out.f1 RL12.out.f2 RB.out.f1 RB.out.f2;have FT:=aa (ur p LP q RB.out.f1 RB.out.f2);unfold xL at JC;rw[HT0.out] at JC FT;have JCH:=aa JC;clear JC;obtain⟨x0,x1,x2,x3,x4,x5,x6,x7,x8,x9,fN,xh⟩:=gn (R8.out.gr Gv.out);obtain⟨u0,u1,uh⟩:=ce (RX8.out.gr Gv.out);obtain⟨v0,v1,vh⟩:=ce (RY8.out.gr Gv.out);obtain⟨c0,c1,ch⟩:=ce RM12.out;go_wp2_with fail;clear c0 c1 ch;clear x0 x1 x2 x3 x4 x5 x6 x7 x8 x9 fN xh u0 u1 uh v0 v1 vh;refine JCH.out.mono ?_;rintro e K9 ⟨j1,j2,i1,i2,rfl,q1,q2,s1,s2,hg⟩;have WI:=aa (Gv.out.trans hg);have SP13:=aa (SP12.out.gr dY.mono hg);have WM13:=aa (WM12.out.gr hg);have RT13:Hid (RlA K9 j1 j2 i1 i2 T0):=aa ⟨s1,s2,q1,q2,FT.out.1,FT.out.2⟩;clear q1 q2 s1 s2 hg JCH SP12 WM12 RL12 RM12 Gv FT;go_upto_region 14 with fail;obtain⟨zI,Oi⟩:∃zI:World,Hid (zI=K9.alloc (.cells #[.slice j1 T0.on.length i1,.slice j2 T0.level.length i2] 29)):=⟨_,aa rfl⟩;obtain⟨Je,hB15⟩:∃Je:Nat,Hid (K9.heap.size=Je):=⟨_,aa rfl⟩;rw[<-Oi.out,hB15.out];have QY:Hid (Gr K9 zI):=aa (by rw[Oi.out];exact(gfl _).alloc _);have RT14:Hid (Row zI Je 29 [.slice j1 T0.on.length i1,.slice j2 T0.level.length i2]):=aa (by rw[Oi.out,<-hB15.out];exact Row.new K9 _ _);have He:=aa (WI.out.trans QY.out);have SP14:=aa (SP13.out.gr dY.mono QY.out);have WM14:=aa (WM13.out.gr QY.out);have RL14:=aa (RT13.out.gr QY.out);have lB15:Hid (w8.heap.size<=Je):=aa (by rw[<-hB15.out];exact WI.out.size);clear Oi hB15 QY SP13 WM13 RT13 WI;have JC:=xM p r T0 ap z1 z2 j1 j2 cp g1 g2 i1 i2 zI (E0.out.sups.gr bG.mono He.out) E0.out.fp (RA.out.on.giB He.out) (RA.out.lv.giI He.out) RL14.out.on RL14.out.lv RA.out.f1 RA.out.f2 RL14.out.f1 RL14.out.f2;have FT:=aa (ur p r T0 RL14.out.f1 RL14.out.f2);unfold xL at JC;rw[<-TOP.out] at JC FT;have JCH:=aa JC;clear JC;obtain⟨x0,x1,x2,x3,x4,x5,x6,x7,x8,x9,fN,xh⟩:=gn (R8.out.gr He.out);obtain⟨u0,u1,uh⟩:=ce (RX8.out.gr He.out);obtain⟨v0,v1,vh⟩:=ce (RY8.out.gr He.out);obtain⟨c0,c1,ch⟩:=ce RT14.out;go_wp2_with fail;clear c0 c1 ch;clear x0 x1 x2 x3 x4 x5 x6 x7 x8 x9 fN xh u0 u1 uh v0 v1 vh;refine JCH.out.mono ?_;rintro e Xe ⟨k1',k2',i3,i4,rfl,q1,q2,s1,s2,hg⟩;have Ya:=aa (He.out.trans hg);have SP15:=aa (SP14.out.gr dY.mono hg);have WM15:=aa (Rc (Wi (WM14.out.gr hg)));have RT15:=aa (RT14.out.gr hg);have RL15:Hid (RlA Xe k1' k2' i3 i4 T):=aa ⟨s1,s2,q1,q2,FT.out.1,FT.out.2⟩;clear q1 q2 s1 s2 hg JCH SP14 WM14 RL14 RT14 He FT;obtain⟨c0,c1,ch⟩:=ce RT15.out;have cf0:=RT15.out.free 0;have cf1:=RT15.out.free 1;go_upto_region 15 with fail;clear c0 c1 ch cf0 cf1;obtain⟨Hw,Dx⟩:∃Hw:World,Hid (Hw=(Xe.setCell ⟨Je,0,none⟩ (.slice k1' T.on.length i3)).setCell ⟨Je,1,none⟩ (.slice k2' T.level.length i4)):=⟨_,aa rfl⟩;rw[<-Dx.out];have lH:Hid (Gr w8 Hw):=aa (by rw[Dx.out];exact Gr.setc lB15.out (Gr.setc lB15.out Ya.out));have RT16:Hid (Row Hw Je 29 [.slice k1' T.on.length i3,.slice k2' T.level.length i4]):=aa (by rw[Dx.out];exact(RT15.out.set 0 _).set 1 _);have RL16:Hid (RlA Hw k1' k2' i3 i4 T):=aa (by rw[Dx.out];exact TM RL15.out RT15.out ⟨by simp,by simp⟩ ⟨by simp,by simp⟩);have SP16:Hid (ag 3 dY Hw aP PL):=aa (by rw[Dx.out];exact sN (sN SP15.out RT15.out (by simp)) (RT15.out.set 0 _) (by simp));have WM16:Hid (ag 3 dY Hw aM (PW.map wcl)):=aa (by rw[Dx.out];exact sN (sN WM15.out RT15.out (by simp)) (RT15.out.set 0 _) (by simp));clear Dx SP15 WM15 RL15 RT15 Ya;have PC:=yf p r T d ap z1 z2 k1' k2' ad cp g1 g2 i3 i4 cd Hw (E0.out.sups.gr bG.mono lH.out) E0.out.fp (RA.out.on.giB lH.out) (RA.out.lv.giI lH.out) RL16.out.on RL16.out.lv (E0.out.drws.gr cX.mono lH.out) RA.out.f1 RA.out.f2 RL16.out.f1 RL16.out.f2 E0.out.fd;unfold yR at PC;rw[rO ma.out kk.out.top] at PC;have PCH:=aa PC;clear PC;obtain⟨x0,x1,x2,x3,x4,x5,x6,x7,x8,x9,fN,xh⟩:=gn (R8.out.gr lH.out);obtain⟨u0,u1,uh⟩:=ce (RX8.out.gr lH.out);obtain⟨v0,v1,vh⟩:=ce (RY8.out.gr lH.out);obtain⟨c0,c1,ch⟩:=ce RT16.out;go_wp2_with fail;clear c0 c1 ch;clear x0 x1 x2 x3 x4 x5 x6 x7 x8 x9 fN xh u0 u1 uh v0 v1 vh;refine PCH.out.mono ?_;rintro e Ym ⟨aU,cU,rfl,oU,wU,hg⟩;have DT:=aa (lH.out.trans hg);have SP17:=aa (SP16.out.gr dY.mono hg);have WM17:=aa (WM16.out.gr dY.mono hg);have RT17:=aa (RT16.out.gr hg);have RL17:=aa (RL16.out.gr hg);have LU:=aa (yE (p:=p) (a:=r) (b:=T) (d:=d) lf.out.2.2.2);have LD:=aa (yE (p:=p) (a:=T) (b:=q) (d:=d) lf.out.2.2.2)
  obtain⟨_,_,eU,_,sU⟩:=wA oU wU;cases eU
  have SU17:=aa sU;obtain⟨UP,hUP⟩:∃UP,fV p r T d=UP:=⟨_,rfl⟩;rw[hUP] at SU17 LU ⊢;have HUP:=aa hUP;clear hUP oU wU sU hg PCH SP16 WM16 RT16 RL16 lH;have PC:=yf p T q d ap k1' k2' y1 y2 ad cp i3 i4 e1 e2 cd Ym (E0.out.sups.gr bG.mono DT.out) E0.out.fp RL17.out.on RL17.out.lv (RB.out.on.giB DT.out) (RB.out.lv.giI DT.out) (E0.out.drws.gr cX.mono DT.out) RL17.out.f1 RL17.out.f2 RB.out.f1 RB.out.f2 E0.out.fd;unfold yR at PC;rw[rO kk.out.top mb.out] at PC;have PCH:=aa PC;clear PC;obtain⟨x0,x1,x2,x3,x4,x5,x6,x7,x8,x9,fN,xh⟩:=gn (R8.out.gr DT.out);obtain⟨u0,u1,uh⟩:=ce (RX8.out.gr DT.out);obtain⟨v0,v1,vh⟩:=ce (RY8.out.gr DT.out);obtain⟨c0,c1,ch⟩:=ce RT17.out;go_wp2_with fail;clear c0 c1 ch;clear x0 x1 x2 x3 x4 x5 x6 x7 x8 x9 fN xh u0 u1 uh v0 v1 vh;refine PCH.out.mono ?_;rintro e wj ⟨aD,cD,rfl,oD,wD,hg⟩;have Y3:=aa (DT.out.trans hg);have SP18:=aa (SP17.out.gr dY.mono hg);have WM18:=aa (WM17.out.gr dY.mono hg);have SU18:=aa (SU17.out.gr dY.mono hg);obtain⟨_,_,eD,_,sD⟩:=wA oD wD;cases eD
  have SD18:=aa sD;obtain⟨DN,hDN⟩:∃DN,fV p T q d=DN:=⟨_,rfl⟩;rw[hDN] at SD18 LD ⊢;have HDN:=aa hDN;clear hDN oD wD sD hg PCH SP17 WM17 SU17 RT17 RL17 DT;have LW:=aa (At (l:=l) (ms:=ms) (f:=f) (t:=t) K.out.cz).2;rw[HPW.out] at LW;have EPL:Hid (PL=UP++PW.map wcl++DN):=aa (by have e1:=kk.out.eqL;rw[HPL.out,HPW.out] at e1;rw[<-HUP.out,<-HDN.out,kk.out.eqU,kk.out.eqD];exact e1)
  obtain⟨MD,hMD⟩:∃MD,PW.map wcl=MD:=⟨_,rfl⟩;have lMD:Hid (PW.length=MD.length):=aa (by rw[<-hMD,List.length_map]);rw[hMD] at WM18 EPL;rw[lMD.out] at LW ⊢;clear hMD;have lPL:Hid (UP.length+MD.length+DN.length=PL.length):=aa (by rw[EPL.out,List.length_append,List.length_append]);have LU':=LU.out;have LD':=LD.out;have LW':=LW.out;obtain⟨Th,hW19⟩:∃Th:World,Hid (Th=wj.alloc (.cells #[] 42)):=⟨_,aa rfl⟩;have WO:Hid (Gr wj Th):=aa (by rw[hW19.out];exact(gfl _).alloc _);have OE:Hid (Th.ownsRow wj.heap.size 42 3 (.slice (some ⟨wj.heap.size,0,none⟩) 0 0) 0 []):=aa (by rw[hW19.out];exact World.ownsRow_lit wj #[] 0 (Nat.le_refl _) (by unfold maxLen;omega) rfl);have GU:=aa (zp (SU18.out.gr dY.mono WO.out));have YC:Hid (wj.heap.size<=Th.heap.size):=aa WO.out.size;go_wp2_with (first
   |(at_builtin;rw[<-hW19.out];refine nL (by first|rfl|simp[Region.wanted,yielded]) _ _ 36 rfl wj.heap.size 42 i0 (.agg #[.int .i64 0,.int .i64 0,.int .i64 0]) 3 24 Tryz.underlying36 hi dt da cN rfl (by decide) (.slice (some ⟨wj.heap.size,0,none⟩) 0 0) 0 [] rfl OE.out aU UP.length cU (ci UP) rfl GU.out (uf _) (by unfold maxLen;omega) (by omega) YC.out ?_;intro ZX X4 aV aE _;obtain⟨YO,YQ,rfl⟩:=be aV;rw[Nat.zero_add,List.nil_append] at aV;have XU:=aa aV;have Xz:Hid (Gr wj X4):=aa (WO.out.grown aE (fun k e=>(nj OE.out k e).1));rw[Nat.zero_add];have GM:=aa (zp (WM18.out.gr dY.mono Xz.out));have Yu:Hid (wj.heap.size<=X4.heap.size):=aa Xz.out.size;clear aV aE)
   |(at_builtin;refine nL (by first|rfl|simp[Region.wanted,yielded]) _ _ 36 rfl wj.heap.size 42 i0 (.agg #[.int .i64 0,.int .i64 0,.int .i64 0]) 3 24 Tryz.underlying36 hi dt da cN rfl (by decide) (.slice YO UP.length YQ) UP.length (ci UP) rfl XU.out aM MD.length cM (ci MD) rfl GM.out (uf _) (by unfold maxLen;omega) (by omega) Yu.out ?_;intro Nz XQ aV aE _;obtain⟨Yj,Yi,rfl⟩:=be aV;have XF:=aa aV;have Xw:Hid (Gr wj XQ):=aa (Xz.out.grown aE (fun k e=>(nj XU.out k e).1));have GD:=aa (zp (SD18.out.gr dY.mono Xw.out));have YG:Hid (wj.heap.size<=XQ.heap.size):=aa Xw.out.size;clear aV aE)
   |(at_builtin;refine nL (by first|rfl|simp[Region.wanted,yielded]) _ _ 36 rfl wj.heap.size 42 i0 (.agg #[.int .i64 0,.int .i64 0,.int .i64 0]) 3 24 Tryz.underlying36 hi dt da cN rfl (by decide) (.slice Yj (UP.length+MD.length) Yi) (UP.length+MD.length) (ci UP++ci MD) rfl XF.out aD DN.length cD (ci DN) rfl GD.out (uf _) (by unfold maxLen;omega) (by omega) YG.out ?_;intro Yk Xt aV aE _;obtain⟨WJ,YN,rfl⟩:=be aV;have Yw:=aa aV;have X3:Hid (Gr wj Xt):=aa (Xw.out.grown aE (fun k e=>(nj XF.out k e).1));rw[lPL.out];clear aV aE)
   |fail)
  have YA:Hid (ag 3 dY Xt WJ PL):=aa (by
   have h:=Yw.out;rw[lPL.out,<-vT,<-vT,<-EPL.out] at h;obtain⟨_,_,e,_,q⟩:=wA h (fun x hx=>by
    rw[EPL.out] at hx;rcases List.mem_append.1 hx with hx|hx
    ·rcases List.mem_append.1 hx with hx|hx
     ·exact sP SU18.out x hx
     exact sP WM18.out x hx
    exact sP SD18.out x hx)
   cases e
   exact q)
  refine(rX PL aP WJ cP YN Xt (SP18.out.gr dY.mono X3.out) YA.out (by have:=lPL.out;unfold Fit;omega)).mono ?_;rintro e YI ⟨rfl,hg⟩;have XX:=aa (Y3.out.trans (X3.out.trans hg));clear hg;go_wp2_with fail;refine(tj YI (WD.out.env.off.gr XX.out)).mono ?_;rintro e ZY ⟨rfl,hg⟩;have Vr:=aa ((G8.out.trans XX.out).trans hg);clear hg;go_wp2_with fail;go_ret;exact⟨rfl,Vr.out⟩
 have bz:(PE !=0)=true:=by simp[hz]
 have bz1:(PE==PE)=true:=by simp
 clear hz;go_wp2_with fail;refine(tj RH (WD.out.env.off.gr FH.out)).mono ?_;rintro e Nu ⟨rfl,hg⟩;have YP:=aa ((G8.out.trans FH.out).trans hg);clear hg;go_wp2_with fail;go_ret;exact⟨rfl,YP.out⟩
end Go.Proofs.YtlmhkjdkcoiioaaGreatDoor
