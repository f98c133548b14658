/- Lemmas and contracts for the proof of PointAlone (several texts in one, printed by wip/tools/pack.py): RnA DsB RpS BgG. -/
import Derived.Test.YtlmhkjdkcoiioaaGreatDoorAl8pj
import Derived.Test.YtlmhkjdkcoiioaaGreatDoorAl8pp
import Derived.Test.YtlmhkjdkcoiioaaGreatDoorAl8pk
import Derived.Test.YtlmhkjdkcoiioaaGreatDoorAl8po
set_option maxRecDepth 100000
set_option maxHeartbeats 16000000
set_option linter.unusedVariables false
set_option linter.unusedSimpArgs false
namespace Go.Proofs.YtlmhkjdkcoiioaaGreatDoor
open Go.RowKit
open Classical
theorem tR(l:List Clk)(s:List Int)(al aS:Option Addr)(cl cs:Nat)(w:World)(h:ag 5 cY w al l)(hs:ag 1 RI w aS s)(hc:bA l=0)(aZ:aI l s):
  Calls Tryz.prog 62 #[.slice al l.length cl,.slice aS s.length cs] w (aN w (.int .i64 (num l s))):=by
 obtain⟨nb,_,_,_⟩:=bm hc;have hl:=cg nb;have eX:s.length=l.length:=aZ.1;have NB:=aa nb;have H:=aa h;have HS:=aa hs;have HC:=aa hc;have HT:=aa aZ;clear h hs hc aZ nb;go_enter Tryz.func62,Tryz.ntmps62;go_wp2_with fail;go_loopw [5,10] (fun n i wr=>∃k:Nat,k<=l.length/\i= .int .i64 k/\n= .int .i64 (jo (kOf l) (sOf s) k)/\Gr w wr) (fun _ i _=>l.length-(intOf i).toNat);case atStart=>exact⟨0,Nat.zero_le _,rfl,rfl,gfl _⟩
 case round=>
  obtain⟨k,hk,rfl,rfl,hg⟩:=hrel;have HG:=aa hg;by_cases fj:k<l.length
  ·have aA:k<s.length:=by omega
   have hx:=nc HC.out HT.out (j:=k) (by omega);have jm:=nc HC.out HT.out (j:=k+1) (by omega);simp only[jo,lZ aA,lu fj] at jm;obtain⟨x,ex⟩:∃x,jo (kOf l) (sOf s) k=x:=⟨_,rfl⟩;have kX:Hid (jo (kOf l) (sOf s) (k+1)=x*(l[k].choices.length:Int)+s[k]):=aa (by simp only[jo,lZ aA,lu fj,ex]);rw[ex] at hx jm ⊢;have aZ:=HT.out.2 k fj aA;obtain⟨fp,fc⟩:=fR NB.out fj;have hm:0<=x*(l[k].choices.length:Int):=Int.mul_nonneg hx.1 (by omega);have me:x*(l[k].choices.length:Int)<=4096:=by omega
   obtain⟨bs,os,rfl,⟨q1,_⟩⟩:=(HS.out.giI hg).one k aA;obtain⟨b,o,rfl,⟨d0,_⟩,⟨ap,cp,d1,_⟩,⟨ac,cc,d2,d2l,d2f,_⟩,⟨d3,_⟩,⟨d4,_⟩⟩:=bj H.out hg k fj;unfold Fit at d2f;have k2:(k:Int)<l.length:=by omega
   have k3:(k:Int)<s.length:=by omega
   have qh:=ae q1;have dh:=ae d0;clear ex hg;go_wp2_with fail
   go_quiet (fail)
   go_wp2_with fail;go_roundw;case rel=>exact⟨k+1,by omega,by go_num,by rw[kX.out],(HG.out.alloc _).drewN _⟩
   case measure=>simp[intOf];omega
  obtain rfl:k=l.length:=by omega
  clear hg;go_wp2_with fail;go_ret;exact⟨rfl,HG.out⟩
theorem Le(l:List Clk)(al:Option Addr)(cl:Nat)(w:World)(h:ag 5 cY w al l)(hc:bA l=0):
  Calls Tryz.prog 131 #[.slice al l.length cl] w (aN w (.int .i64 (bF l:Nat))):=by
 obtain⟨nb,ok,pr,fs⟩:=bm hc;have hl:=cg nb;have NB:=aa nb;have H:=aa h;have PR:=aa pr;have TK:Hid (∀k,bF (l.take k)<=bF l):=aa (fun k=>nB (qe ok) k);clear h hc nb ok pr fs;go_enter Tryz.func131,Tryz.ntmps131;go_wp2_with fail;go_loopw [3,8] (fun n i wr=>∃k:Nat,k<=l.length/\i= .int .i64 k/\n= .int .i64 (bF (l.take k):Nat)/\Gr w wr) (fun _ i _=>l.length-(intOf i).toNat);case atStart=>exact⟨0,Nat.zero_le _,rfl,rfl,gfl _⟩
 case round=>
  obtain⟨k,hk,rfl,rfl,hg⟩:=hrel;have HG:=aa hg;by_cases fj:k<l.length
  ·have h1:=TK.out k;have h2:=TK.out (k+1);have h3:=PR.out;have kX:=ql l k fj;obtain⟨x,ex⟩:∃x,bF (l.take k)=x:=⟨_,rfl⟩;rw[ex] at h1 kX ⊢;rw[kX] at h2;have HST:=aa kX;have me:((x*l[k].choices.length:Nat):Int)<=4096:=by omega
   have jx:(0:Int)<=((x*l[k].choices.length:Nat):Int):=by omega
   rw[Int.natCast_mul] at jx me;have hx4:x<=4096:=by omega
   obtain⟨fp,fc⟩:=fR NB.out fj;obtain⟨b,o,rfl,⟨d0,_⟩,⟨ap,cp,d1,_⟩,⟨ac,cc,d2,d2l,d2f,_⟩,⟨d3,_⟩,⟨d4,_⟩⟩:=bj H.out hg k fj;unfold Fit at d2f;have k2:(k:Int)<l.length:=by omega
   have dh:=ae d0;clear ex hg kX h1 h2 h3;go_wp2_with fail;go_roundw;case rel=>exact⟨k+1,by omega,by go_num,by rw[HST.out,Int.natCast_mul],HG.out.alloc _⟩
   case measure=>simp[intOf];omega
  obtain rfl:k=l.length:=by omega
  clear hg;go_wp2_with fail;go_ret;exact⟨by rw[List.take_length];rfl,HG.out⟩
def QE(w:World)(base:Nat)(wr:World)(v:Value)(s:List Int):Prop:=∃(a:Option Addr) (c:Nat),v= .slice a s.length c/\(ag 1 RI w a s∨∃B,a=some ⟨B,0,none⟩/\bd wr B 3 (an s)/\base<=B)
theorem QE.gr{w wr wr':World}{base:Nat}{v:Value}{s:List Int}(h:QE w base wr v s)(hg:Gr wr wr'):QE w base wr' v s:=by
 obtain⟨a,c,e,h|⟨B,e2,r,b⟩⟩:=h
 ·exact⟨a,c,e,.inl h⟩
 exact⟨a,c,e,.inr ⟨B,e2,r.gr hg,b⟩⟩
theorem QE.set{w wr:World}{base D:Nat}{v x:Value}{j:Nat}{s:List Int}(h:QE w base wr v s)(hd:D<base):QE w base (wr.setCell ⟨D,j,none⟩ x) v s:=by
 obtain⟨a,c,e,h|⟨B,e2,⟨r,hr⟩,b⟩⟩:=h
 ·exact⟨a,c,e,.inl h⟩
 exact⟨a,c,e,.inr ⟨B,e2,⟨r,hr.oth (by omega)⟩,b⟩⟩
theorem QE.sl{w wr:World}{base:Nat}{v:Value}{s:List Int}(h:QE w base wr v s)(hg:Gr w wr)(hw:∀k (hk:k<s.length),aK s[k]):∃a c,v= .slice a s.length c/\ag 1 RI wr a s:=by
 obtain⟨a,c,e,h|⟨B,e2,r,b⟩⟩:=h
 ·exact⟨a,c,e,h.giI hg⟩
 subst e2;exact⟨_,c,e,r.slI hw⟩
theorem QE.grown{w wr W:World}{base b2 n:Nat}{v V:Value}{us:List Value}{s:List Int}(h:QE w base wr v s)(o:wr.ownsRow b2 22 1 V n us)(hg:wr.grownBy W V.ownBlock):QE w base W v s:=by
 obtain⟨a,c,e,h|⟨B,e2,r,b⟩⟩:=h
 ·exact⟨a,c,e,.inl h⟩
 exact⟨a,c,e,.inr ⟨B,e2,r.grown hg (aJ o r (by decide)),b⟩⟩
structure QS(w:World)(D:Nat)(V:List (List Int×Int))(vs:List Value)(ao:Option Addr)(co:Nat)(wr:World):Prop where
 len:vs.length=V.length
 own:wr.ownsRow (D+1) 22 1 (.slice ao vs.length co) vs.length vs
 qs:∀i (h:i<vs.length) (h':i<V.length),QE w (D+1) wr vs[i] V[i].1
 gr:Gr w wr
section
variable {w wr wr':World} {D:Nat} {V:List (List Int×Int)} {vs:List Value} {ao:Option Addr} {co:Nat}
theorem QS.g(h:QS w D V vs ao co wr)(hg:Gr wr wr'):QS w D V vs ao co wr':=
 ⟨h.len,Gr.owns h.own hg,fun i hi lJ=>(h.qs i hi lJ).gr hg,h.gr.trans hg⟩
theorem QS.set(h:QS w D V vs ao co wr)(hd:w.heap.size<=D){us:List Value}(r:Row wr D 3 us){j:Nat}{x:Value}:QS w D V vs ao co (wr.setCell ⟨D,j,none⟩ x):=
 ⟨h.len,l7 h.own r.s (by decide),fun i hi lJ=>(h.qs i hi lJ).set (by omega),h.gr.setc hd⟩
theorem QS.app(h:QS w D V vs ao co wr)(hd:w.heap.size<=D){W:World}{a6:Option Addr}{c6:Nat}{xv:Value}{x:List Int}{d:Int}(ho:W.ownsRow (D+1) 22 1 (.slice a6 (vs.length+1) c6) (vs.length+1) (vs++ [xv]))(hg:wr.grownBy W (Value.slice ao vs.length co).ownBlock)(hx:QE w (D+1) wr xv x):
  QS w D (V++ [(x,d)]) (vs++ [xv]) a6 c6 W:=by
 refine⟨by simp[h.len],by simpa using ho,fun i hi lJ=>?_,h.gr.grown hg (fun k e=>by have:=(h.own.lt k e).1;omega)⟩;by_cases q:i<vs.length
 ·rw[List.getElem_append_left q,List.getElem_append_left (by rw[<-h.len];exact q)];exact(h.qs i q (by rw[<-h.len];exact q)).grown h.own hg
 have e:i=vs.length:=by simp at hi;omega
 subst e;have e2:vs.length=V.length:=h.len;simp only[List.getElem_append_right (Nat.le_refl _),Nat.sub_self,List.getElem_cons_zero];have:(V++ [(x,d)])[vs.length]'lJ=(x,d):=by simp[e2]
 rw[this];exact hx.grown h.own hg
end
theorem Ug{k N:Nat}(h:k<N):List.replicate (k+1) (-1:Int)++List.replicate (N-(k+1)) 0=(List.replicate k (-1)++List.replicate (N-k) 0).set k (-1):=by obtain⟨r,rfl⟩:∃r,N=k+1+r:=⟨N-(k+1),by omega⟩;rw[show k+1+r-(k+1)=r by omega,show k+1+r-k=r+1 by omega,List.set_append_right _ _ (by simp),List.length_replicate,Nat.sub_self,List.replicate_succ (n:=r),List.set_cons_zero,List.replicate_succ',List.append_assoc];rfl
def VF(l:List Clk)(N p:Nat)(h:List Int)(dd:Int)(V:List (List Int×Int)):Prop:=vJ l V/\ba V h=some dd/\V.length<=N/\∀q∈V,0<=q.2/\q.2<=(p+1:Int)
theorem vf_of{l:List Clk}{cal:List Int->Bool}{f:List Int}(hf:aI l f)(hc:cal f=true){p:Nat}{h:List Int}{dd:Int}(hp:(aW (nbS l cal) f p)[p]?=some (h,dd)){u v:Nat}(hu:u<l.length)(hv:(v:Int)<=kOf l u):VF l (bF l) p h dd (vis l cal h dd (aW (nbS l cal) f p) u v):=by
 obtain⟨E,e⟩:=Si hp hu hv;obtain⟨E2,e2⟩:=Nh (l:=l) (cal:=cal) (V:=aW (nbS l cal) f p) h dd u v;have hm:∀q∈vis l cal h dd (aW (nbS l cal) f p) u v,q∈aW (nbS l cal) f (p+1):=fun q hq=>by rw[e];exact List.mem_append.2 (.inl hq)
 refine⟨fun q hq=>(mX hf hc (p+1) q (hm q hq)).1,?_,?_,fun q hq=>?_⟩
 ·rw[e2];have h1:ba (aW (nbS l cal) f p) h=some dd:=uV (qW.after (nbS l cal) f p).nodup (List.mem_of_getElem? hp);rw[Uu (by rw[h1];rfl),h1]
 ·have:=mP hf hc (p+1);rw[e,List.length_append] at this;omega
 have:=Ho (l:=l) (cal:=cal) f (p+1) q (hm q hq);omega
theorem ID(l:List Clk)(ms:List Lmt)(f:List Int)(al am af:Option Addr)(cl cm cf:Nat)(w:World)(bH:Env w l ms al am)(hf:aI l f)(sf:ag 1 RI w af f)(zi:aG l ms f=true):
  Calls Tryz.prog 61 #[.slice al l.length cl,.slice af f.length cf,.slice am ms.length cm] w fun e w'=>∃(D:Nat) (V:List (List Int×Int)),e= .returned (.slice (some ⟨D,0,none⟩) (bF l) (bF l))/\vJ l V/\jc l (aG l ms) f (ba V)/\(∀q∈V,0<=q.2/\q.2<=4096)/\Row w' D 3 (an (dA l (bF l) V))/\w.heap.size<=D/\Gr w w':=by
 have zB:=cg (bm bH.chk).1;have PR:=(bm bH.chk).2.2.1;have HE:=aa bH;have SF:=aa sf;have TF:=aa hf;have HC:=aa zi;have CN:=aa (fun W (hW:Gr w W)=>Le l al cl W (bj bH.clks hW) bH.chk);have NB:=aa (bm bH.chk).1;have N1:=aa (fun W (hW:Gr w W) s a c (hs:aI l s) (eX:ag 1 RI W a s)=>tR l s al a cl c W (bj bH.clks hW) eX bH.chk hs);obtain⟨N,hN⟩:∃N,bF l=N:=⟨_,rfl⟩;have EN:=aa hN;rw[hN] at PR CN ⊢;have jV:=run_make_row' (P:=Tryz.prog) 22 3 (.int .i64 0) 8 Tryz.underlying22 eS rfl .i64 .i64 N (by omega) (by omega);obtain⟨i0,hi,dt,da,cN⟩:=info_parts Tu;clear bH hf sf zi hN;go_enter Tryz.func61,Tryz.ntmps61;go_wp2_with fail;refine(CN.out w (gfl _)).mono ?_;rintro e w1 ⟨rfl,bD⟩;have G1:=aa bD;clear bD CN;go_wp2_with fail;obtain⟨D,hD⟩:∃D:Nat,Hid (w1.heap.size=D):=⟨_,aa rfl⟩;obtain⟨W2,hW2⟩:∃W2:World,Hid (W2=w1.alloc (.cells (madeCells #[.int .i64 0] N) 3)):=⟨_,aa rfl⟩;rw[<-hW2.out,hD.out];have R2:Hid (Row W2 D 3 (an (List.replicate N 0))):=aa (by
  rw[hW2.out];have:=sZ w1 (madeCells #[.int .i64 0] N) 3 D hD.out.symm;rw[tw] at this;have e:an (List.replicate N 0)=List.replicate N (.int .i64 0):=by simp[an]
  rw[e];exact this)
 have G2:Hid (Gr w W2):=aa (by rw[hW2.out];exact G1.out.alloc _);have LD:Hid (w.heap.size<=D):=aa (by have:=hD.out;have:=G1.out.size;omega);clear hW2 hD jV G1;go_loopw [22] (fun i wr=>∃k:Nat,k<=N/\i= .int .i64 k/\Row wr D 3 (an (List.replicate k (-1)++List.replicate (N-k) 0))/\Gr w wr) (fun i _=>N-(intOf i).toNat);case atStart=>exact⟨0,Nat.zero_le _,rfl,by simpa using R2.out,G2.out⟩
 case round=>
  clear R2 G2;obtain⟨k,hk,rfl,hr,hg⟩:=hrel;have RR:=aa hr;have GG:=aa hg;by_cases aA:k<N
  ·have k2:(k:Int)<N:=by omega
   have c0:=hr.iat k (by rw[List.length_append,List.length_replicate,List.length_replicate];omega);have cf:=hr.free k;have ch:=hr.has;clear hr hg;go_wp2_with fail;go_roundw;case rel=>refine⟨k+1,by omega,by go_num,?_,GG.out.setc LD.out⟩;have:=RR.out.iset k (-1);rw[Ug aA];exact this
   case measure=>simp[intOf];omega
  obtain rfl:k=N:=by omega
  have RD:Hid (Row wr D 3 (an (dA l k []))):=aa (by rw[WG];simpa using hr);clear hr hg RR;go_wp2_with fail;refine(N1.out wr GG.out f af cf TF.out (SF.out.giI GG.out)).mono ?_;rintro e w3 ⟨rfl,cG⟩;have nbs:=mO TF.out;rw[EN.out] at nbs;obtain⟨mf,hmf⟩:∃m:Nat,num l f=(m:Int):=⟨(num l f).toNat,by omega⟩;have RD3:=aa (RD.out.gr cG);have G3:=aa (GG.out.trans cG);have HMF:=aa hmf;rw[hmf] at nbs ⊢;have c0:=RD3.out.iat mf (by rw[xR];omega);have c1:=RD3.out.free mf;have ch:=RD3.out.has;have m2:(mf:Int)<k:=by omega
  clear cG RD GG;have LW3:Hid (D<w3.heap.size):=aa (by have:=RD3.out.has;unfold Has at this;exact this);obtain⟨Wa,hWa⟩:∃Wa:World,Hid (Wa=w3.setCell ⟨D,mf,none⟩ (.int .i64 0)):=⟨_,aa rfl⟩;obtain⟨Wb,hWb⟩:∃Wb:World,Hid (Wb=Wa.alloc (.cells #[.slice af f.length cf] 22)):=⟨_,aa rfl⟩;obtain⟨Q0,hQ0⟩:∃Q0:Nat,Hid (w3.heap.size=Q0):=⟨_,aa rfl⟩;go_wp2_with fail;rw[<-hWa.out,<-hWb.out,hQ0.out];have GAB:Hid (Gr Wa Wb):=aa (by rw[hWb.out];exact(gfl _).alloc _);have GWb:Hid (Gr w Wb):=aa (by rw[hWb.out,hWa.out];exact(G3.out.setc LD.out).alloc _);have AR0:Hid (Row Wb D 3 (an (dA l k [(f,0)]))):=aa (by refine Row.gr ?_ GAB.out;rw[hWa.out];have:=RD3.out.iset mf 0;rw[NI (V:= []) (fun q hq=>by cases hq) TF.out HMF.out rfl] at this;exact this)
  have QS0:Hid (QS w D [(f,0)] [.slice af f.length cf] (some ⟨Q0,0,none⟩) 1 Wb):=aa ⟨rfl,by
   rw[hWb.out];have:=World.ownsRow_lit (base:=D+1) (e:=22) (size:=1) Wa #[.slice af f.length cf] 1 (by rw[hWa.out,bQ];have:=LW3.out;omega) (by unfold maxLen;omega) (by simp);rw[hWa.out,bQ,hQ0.out] at this;rw[hWa.out];exact this,fun i hi lJ=>by
   have:i=0:=by simpa using hi
   subst this;exact⟨af,cf,rfl,.inl SF.out⟩,GWb.out⟩
  clear hWa hWb hQ0 G3 RD3 c0 c1 ch GAB LW3;go_loopw [9,10] (fun s9 fQ wr=>∃(p:Nat) (vs:List Value) (ao:Option Addr) (co:Nat),s9= .slice ao vs.length co/\fQ= .int .i64 (p:Int)/\p<=vs.length/\QS w D (aW (nbS l (aG l ms)) f p) vs ao co wr/\Row wr D 3 (an (dA l k (aW (nbS l (aG l ms)) f p)))) (fun _ fQ _=>k-(intOf fQ).toNat);case atStart=>exact⟨0,[.slice af f.length cf],some ⟨Q0,0,none⟩,1,rfl,rfl,by simp,QS0.out,AR0.out⟩
  case round=>
   clear QS0 AR0 GWb;obtain⟨p,vs,ao,co,rfl,rfl,hp,hq,ha⟩:=hrel;have QQ:=aa hq;have AA:=aa ha;have gO:=mP (l:=l) TF.out HC.out p;rw[EN.out,<-hq.len] at gO;clear hq ha;by_cases fj:p<vs.length
   ·have p2:(p:Int)<vs.length:=(by omega);obtain⟨gq,_,e,_,_,lG⟩:=fM QQ.out.own (by omega);cases e
    have c0:=lG (p*1) (by omega);rw[Nat.mul_one,List.getElem?_eq_getElem fj] at c0;have hpV:p<(aW (nbS l (aG l ms)) f p).length:=(by rw[<-QQ.out.len];exact fj);obtain⟨⟨h,dd⟩,zL⟩:∃hd,(aW (nbS l (aG l ms)) f p)[p]?=some hd:=⟨_,List.getElem?_eq_getElem hpV⟩;have hqe:=QQ.out.qs p fj hpV;have e1:=(List.getElem?_eq_some_iff.1 zL).2;rw[e1] at hqe;obtain⟨a,c,ev,hqe'⟩:=id hqe;rw[ev] at c0 hqe;rw[show h.length=l.length from(mX (l:=l) (cal:=aG l ms) TF.out HC.out p _ (List.mem_of_getElem? zL)).1.1] at c0;have HQE:=aa hqe;have HHD:=aa zL;have SH:=aa (mX (l:=l) (cal:=aG l ms) TF.out HC.out p _ (List.mem_of_getElem? zL)).1;have hhl:h.length=l.length:=SH.out.1;have ch:=ae c0;have HHL:=aa hhl;have VFF:Hid (∀u v:Nat,u<l.length->(v:Int)<=kOf l u->VF l k p h dd (vis l (aG l ms) h dd (aW (nbS l (aG l ms)) f p) u v)):=aa (fun u v hu hv=>by have:=vf_of TF.out HC.out zL hu hv;rwa [EN.out] at this)
    have VN:Hid (vis l (aG l ms) h dd (aW (nbS l (aG l ms)) f p) l.length 0=aW (nbS l (aG l ms)) f (p+1)):=aa (by rw[Wx];show _=qu (nbS l (aG l ms)) (aW (nbS l (aG l ms)) f p) p;unfold qu;rw[zL])
    have PL:Hid (p+1<=(aW (nbS l (aG l ms)) f (p+1)).length):=aa (by rw[<-VN.out];obtain⟨E,e⟩:=Nh (l:=l) (cal:=aG l ms) (V:=aW (nbS l (aG l ms)) f p) h dd l.length 0;rw[e,List.length_append];omega)
    have V0:Hid (vis l (aG l ms) h dd (aW (nbS l (aG l ms)) f p) 0 0=aW (nbS l (aG l ms)) f p):=aa (UG _ _);have VR:Hid (∀u,vis l (aG l ms) h dd (aW (nbS l (aG l ms)) f p) u (kOf l u).toNat=vis l (aG l ms) h dd (aW (nbS l (aG l ms)) f p) (u+1) 0):=aa (fun u=>VM _ _ u);have VS:Hid (∀u v:Nat,u<l.length->(v:Int)<=kOf l u->vis l (aG l ms) h dd (aW (nbS l (aG l ms)) f p) u (v+1)=if ba (vis l (aG l ms) h dd (aW (nbS l (aG l ms)) f p) u v) (h.set u (v:Int))=none/\aG l ms (h.set u (v:Int))=true then vis l (aG l ms) h dd (aW (nbS l (aG l ms)) f p) u v++ [(h.set u (v:Int),dd+1)] else vis l (aG l ms) h dd (aW (nbS l (aG l ms)) f p) u v):=aa (fun u v hu hv=>UW (by omega) (by rw[(VFF.out u v hu hv).2.1];rfl));obtain⟨VV,hVV⟩:∃F:Nat->Nat->List (List Int×Int),F=fun u v=>vis l (aG l ms) h dd (aW (nbS l (aG l ms)) f p) u v:=⟨_,rfl⟩;have VF':Hid (∀u v:Nat,u<l.length->(v:Int)<=kOf l u->VF l k p h dd (VV u v)):=aa (by subst hVV;exact VFF.out);have VN':Hid (VV l.length 0=aW (nbS l (aG l ms)) f (p+1)):=aa (by subst hVV;exact VN.out);have VR':Hid (∀u,VV u (kOf l u).toNat=VV (u+1) 0):=aa (by subst hVV;exact VR.out);have VS':Hid (∀u v:Nat,u<l.length->(v:Int)<=kOf l u->VV u (v+1)=if ba (VV u v) (h.set u (v:Int))=none/\aG l ms (h.set u (v:Int))=true then VV u v++ [(h.set u (v:Int),dd+1)] else VV u v):=aa (by subst hVV;exact VS.out);have XN:Hid (QS w D (VV 0 0) vs (some ⟨gq,0,none⟩) co wr):=aa (by subst hVV;show QS w D (vis _ _ _ _ _ 0 0) _ _ _ _;rw[V0.out];exact QQ.out);have Yc:Hid (Row wr D 3 (an (dA l k (VV 0 0)))):=aa (by subst hVV;show Row wr D _ (an (dA l k (vis _ _ _ _ _ 0 0)));rw[V0.out];exact AA.out);have pk:p<k:=(by omega);clear lG hqe hqe' ev e1 zL hpV VFF VN V0 VR VS hVV QQ AA hhl;go_wp2_with fail;clear c0 ch;go_loopw [9,48] (fun s9 eN wr=>∃(u:Nat) (vs:List Value) (ao:Option Addr) (co:Nat),s9= .slice ao vs.length co/\eN= .int .i64 (u:Int)/\u<=l.length/\QS w D (VV u 0) vs ao co wr/\Row wr D 3 (an (dA l k (VV u 0)))/\QE w (D+1) wr (.slice a l.length c) h) (fun _ eN _=>l.length-(intOf eN).toNat);case atStart=>exact⟨0,vs,some ⟨gq,0,none⟩,co,rfl,rfl,Nat.zero_le _,XN.out,Yc.out,by have:=HQE.out;rwa [HHL.out] at this⟩
    case round=>
     clear XN Yc HQE gO hp fj p2;obtain⟨u,vs,ao,co,rfl,rfl,hu,hq,ha,he⟩:=hrel;have QQ:=aa hq;have AA:=aa ha;have EE:=aa he;clear hq ha he;by_cases sF:u<l.length
     ·have u2:(u:Int)<l.length:=(by omega);obtain⟨fp,fc⟩:=fR NB.out sF;obtain⟨b,o,rfl,⟨d0,_⟩,⟨ap,cp,d1,_⟩,⟨ac,cc,d2,_,d2f,_⟩,⟨d3,_⟩,⟨d4,_⟩⟩:=bj HE.out.clks QQ.out.gr u sF;have dh:=ae d0;unfold Fit at d2f;have KU:=aa (lu sF);obtain⟨K,hK⟩:∃K,l[u].choices.length=K:=⟨_,rfl⟩;rw[hK] at KU;have KW:Hid (∀v:Nat,v<=K->(v:Int)<=kOf l u):=aa (fun v hv=>by rw[KU.out];omega);have GA:Hid (Gr wr (wr.alloc (.cells #[.int .i64 l[u].kind,.slice ap l[u].parents.length cp,.slice ac K cc,.int .i64 l[u].low,.int .i64 l[u].high] 130))):=aa ((gfl _).alloc _);have Q1:=aa (QQ.out.g GA.out);have A1:=aa (AA.out.gr GA.out);have E1:=aa (EE.out.gr GA.out);have K8:K<=8:=(by omega);go_wp2_with fail;clear d0 d1 d2 d3 d4 dh;go_loopw [9,56] (fun s9 eZ wr=>∃(v:Nat) (vs:List Value) (ao:Option Addr) (co:Nat),s9= .slice ao vs.length co/\eZ= .int .i64 (v:Int)/\v<=K/\QS w D (VV u v) vs ao co wr/\Row wr D 3 (an (dA l k (VV u v)))/\QE w (D+1) wr (.slice a l.length c) h) (fun _ eZ _=>K-(intOf eZ).toNat);case atStart=>exact⟨0,vs,ao,co,rfl,rfl,Nat.zero_le _,Q1.out,A1.out,E1.out⟩
      case round=>
       clear Q1 A1 E1 GA QQ AA EE hK;obtain⟨v,vs,ao,co,rfl,rfl,hv,hq,ha,he⟩:=hrel;have QQ:=aa hq;have AA:=aa ha;have EE:=aa he;clear hq ha he;by_cases hvk:v<K
       ·have v2:(v:Int)<K:=(by omega);have vk:(v:Int)<kOf l u:=(by rw[KU.out];exact v2);obtain⟨f1,f2,f3,f4⟩:=VF'.out u v sF (by omega);have F1:=aa f1;have F2:=aa f2;have F4:=aa f4;have vl:vs.length<=k:=(by rw[QQ.out.len];exact f3);obtain⟨x,hx⟩:∃x,h.set u (v:Int)=x:=⟨_,rfl⟩;have SX:Hid (aI l x):=aa (by rw[<-hx];exact SH.out.set sF (by omega) vk);have eX:ag 1 RI wr a h:=by
         obtain⟨a',c',ev,eX⟩:=EE.out.sl QQ.out.gr (gm HE.out.chk SH.out);injection ev with x1 _ _;rw[x1];exact eX
        have CH:=xA h u (v:Int) a c wr eX (by have:=HHL.out;omega) (by have:=HHL.out;omega);rw[hx,HHL.out] at CH;have CH':=aa CH;have VST:=aa (VS'.out u v sF (by omega));rw[hx] at VST;have HX:=aa hx;clear CH eX hx f1 f2 f3 f4 vk;go_wp2_with fail;refine CH'.out.mono ?_;rintro e w4 ⟨B,cx,rfl,tn,Ls,Hc⟩;have RX:=aa tn;have BX:Hid (D+1<=B):=aa (by have:=AA.out.has;unfold Has at this;omega);have Q4:=aa (QQ.out.g Hc);have A4:=aa (AA.out.gr Hc);have E4:=aa (EE.out.gr Hc);clear tn Ls Hc QQ AA EE CH';have NX:=N1.out w4 Q4.out.gr x (some ⟨B,0,none⟩) cx SX.out (RX.out.slI (gm HE.out.chk SX.out));rw[SX.out.1] at NX;have nbx:=mO SX.out;rw[EN.out] at nbx;obtain⟨m,hm⟩:∃m:Nat,num l x=(m:Int):=⟨(num l x).toNat,by omega⟩;rw[hm] at NX nbx;have NX':=aa NX;have HM:=aa hm;clear NX hm;go_wp2_with fail;refine NX'.out.mono ?_;rintro e w5 ⟨rfl,jl⟩;have Q5:=aa (Q4.out.g jl);have A5:=aa (A4.out.gr jl);have E5:=aa (E4.out.gr jl);have RX5:=aa (RX.out.gr jl);clear jl Q4 A4 E4 NX' RX;have mk:m<(dA l k (VV u v)).length:=(by rw[xR];omega);have c0:=A5.out.iat m mk;rw[Ek F1.out SX.out HM.out mk] at c0;have ch:=A5.out.has;have m2:(m:Int)<k:=(by omega);cases lX:ba (VV u v) x with
        |some dx=>
         have VE:Hid (VV u (v+1)=VV u v):=aa (by rw[VST.out,if_neg (by rw[lX];rintro⟨q,_⟩;cases q)]);rw[lX] at c0;have dx0:=(F4.out _ (fZ lX)).1;have dd0:decide (dx<0)=false:=dfx (by simpa using dx0);simp only[Option.getD_some] at c0;clear lX dx0;go_wp2_with fail;go_roundw;case rel=>exact⟨v+1,vs,ao,co,rfl,by simp,by omega,by rw[VE.out];exact Q5.out,by rw[VE.out];exact A5.out,E5.out⟩
         case measure=>simp[intOf];omega
        |none=>
         rw[lX] at c0;simp only[Option.getD_none] at c0;have HLK:=aa lX;have CA0:=wh l ms x (some ⟨b,o,none⟩) (some ⟨B,0,none⟩) am cl cx cm w5 (bj HE.out.clks Q5.out.gr) (RX5.out.slI (gm HE.out.chk SX.out)) (iR HE.out.lmts Q5.out.gr) HE.out.chk SX.out HE.out.lims;rw[SX.out.1] at CA0;have CA:=aa CA0;clear lX CA0;go_wp2_with fail;refine CA.out.mono ?_;rintro e w6 ⟨rfl,jU⟩;have Q6:=aa (Q5.out.g jU);have A6:=aa (A5.out.gr jU);have E6:=aa (E5.out.gr jU);have RX6:=aa (RX5.out.gr jU);clear jU Q5 A5 E5 CA RX5 c0 ch;cases hcx:aG l ms x with
         |false=>
          have VE:Hid (VV u (v+1)=VV u v):=aa (by rw[VST.out,if_neg (by rw[hcx];rintro⟨_,q⟩;cases q)]);clear hcx;go_wp2_with fail;go_roundw;case rel=>exact⟨v+1,vs,ao,co,rfl,by simp,by omega,by rw[VE.out];exact Q6.out,by rw[VE.out];exact A6.out,E6.out⟩
          case measure=>simp[intOf];omega
         |true=>
          have VE:Hid (VV u (v+1)=VV u v++ [(x,dd+1)]):=aa (by rw[VST.out,if_pos ⟨HLK.out,hcx⟩]);have hslh:ag 1 RI w6 a h:=by obtain⟨a',c',ev,eX⟩:=E6.out.sl Q6.out.gr (gm HE.out.chk SH.out);injection ev with x1 _ _;rw[x1];exact eX
          have NH:=N1.out w6 Q6.out.gr h a c SH.out hslh;rw[HHL.out] at NH;have nbh:=mO SH.out;rw[EN.out] at nbh;obtain⟨mh,hmh⟩:∃m:Nat,num l h=(m:Int):=⟨(num l h).toNat,by omega⟩;rw[hmh] at NH nbh;have NH':=aa NH;have HMH:=aa hmh;have ddb:0<=dd/\dd<=4097:=by have:=F4.out _ (fZ F2.out);simp only at this;omega
          clear hcx NH hmh hslh;go_wp2_with fail;refine NH'.out.mono ?_;rintro e w7 ⟨rfl,jT⟩;have Q7:=aa (Q6.out.g jT);have A7:=aa (A6.out.gr jT);have E7:=aa (E6.out.gr jT);have RX7:=aa (RX6.out.gr jT);clear jT Q6 A6 E6 NH' RX6;have mhk:mh<(dA l k (VV u v)).length:=(by rw[xR];omega);have b0:=A7.out.iat mh mhk;rw[Ek F1.out SH.out HMH.out mhk,F2.out] at b0;simp only[Option.getD_some] at b0;have b1:=A7.out.iat m mk;have bf:=A7.out.free m;have bh:=A7.out.has;have mh2:(mh:Int)<k:=(by omega);have ddw:IntKind.i64.wrap (dd+1)=dd+1:=(by rw[IntKind.wrap_i64];omega);obtain⟨W8,hW8⟩:∃W8:World,Hid (W8=w7.setCell ⟨D,m,none⟩ (.int .i64 (dd+1))):=⟨_,aa rfl⟩;obtain⟨N8,hN8⟩:∃N8:Nat,Hid (w7.heap.size=N8):=⟨_,aa rfl⟩;obtain⟨WA,hWA⟩:∃WA:World,Hid (WA=W8.alloc (.cells #[.slice (some ⟨B,0,none⟩) l.length cx] 22)):=⟨_,aa rfl⟩;have GA:Hid (Gr W8 WA):=aa (by rw[hWA.out];exact(gfl _).alloc _);have A8:Hid (Row WA D 3 (an (dA l k (VV u (v+1))))):=aa (by refine Row.gr ?_ GA.out;rw[hW8.out,VE.out,<-NI F1.out SX.out HM.out HLK.out];exact A7.out.iset m (dd+1))
          have Q8:Hid (QS w D (VV u v) vs ao co WA):=aa ((by rw[hW8.out];exact Q7.out.set LD.out A7.out:QS w D (VV u v) vs ao co W8).g GA.out);have E8:Hid (QE w (D+1) WA (.slice a l.length c) h):=aa ((by rw[hW8.out];exact E7.out.set (by omega):QE w (D+1) W8 (.slice a l.length c) h).gr GA.out);have X8:Hid (QE w (D+1) WA (.slice (some ⟨B,0,none⟩) l.length cx) x):=aa ((by rw[hW8.out];exact QE.set ⟨some ⟨B,0,none⟩,cx,by rw[SX.out.1],.inr ⟨B,rfl,RX7.out,BX.out⟩⟩ (by omega):QE w (D+1) W8 (.slice (some ⟨B,0,none⟩) l.length cx) x).gr GA.out);have CC:Hid (∀j u,([.slice (some ⟨B,0,none⟩) l.length cx]:List Value)[j]?=some u->WA.cell? ((⟨N8,0,none⟩:Addr).add j)=some u):=aa (by have:=fY (Row.new W8 #[.slice (some ⟨B,0,none⟩) l.length cx] 22);rw[<-hWA.out,hW8.out,bQ,hN8.out] at this;exact this)
          have ONE:Hid (∀u∈([.slice (some ⟨B,0,none⟩) l.length cx]:List Value),u.oneCell'=true):=aa (fun u hu=>by rw[List.mem_singleton.1 hu];rfl);have BASE:Hid (D+1<=WA.heap.size):=aa (by have:=A8.out.has;unfold Has at this;omega);clear Q7 E7 RX7;go_wp2_with (first
           |(at_builtin;rw[<-hW8.out,<-hWA.out,hN8.out];refine bM _ rfl _ _ 60 rfl (D+1) 22 i0 (.slice none 0 0) 1 24 Tryz.underlying60 hi dt da cN rfl (by decide) (.slice ao vs.length co) vs.length vs rfl Q8.out.own (some ⟨N8,0,none⟩) 1 1 [.slice (some ⟨B,0,none⟩) l.length cx] rfl ⟨rfl,fun _=>⟨_,rfl,CC.out⟩⟩ ONE.out (by unfold maxLen;omega) (by omega) BASE.out ?_;intro v9 W9 aV aE _;obtain⟨a9,c9,rfl⟩:=be aV;have Q9:=aa (Q8.out.app (d:=dd+1) LD.out aV aE X8.out);have A9:=aa (A8.out.grown aE (aJ Q8.out.own A8.out.s (by decide)));have E9:=aa (E8.out.grown Q8.out.own aE);clear aV aE b0 b1 bf bh hW8 hWA)
           |fail)
          go_roundw;case rel=>exact⟨v+1,vs++ [.slice (some ⟨B,0,none⟩) l.length cx],a9,c9,by simp,by simp,by omega,by rw[VE.out];exact Q9.out,A9.out,E9.out⟩
          case measure=>simp[intOf];omega
       obtain rfl:v=K:=by omega
       have VE:Hid (VV u v=VV (u+1) 0):=aa (by rw[<-VR'.out u,KU.out];simp);go_wp2_with fail;go_roundw;case rel=>exact⟨u+1,vs,ao,co,rfl,by simp,by omega,by rw[<-VE.out];exact QQ.out,by rw[<-VE.out];exact AA.out,EE.out⟩
       case measure=>simp[intOf];omega
     obtain rfl:u=l.length:=by omega
     have VE:=aa VN'.out;go_wp2_with fail;go_roundw;case rel=>exact⟨p+1,vs,ao,co,rfl,by simp,by have:=PL.out;have:=QQ.out.len;rw[VE.out] at this;omega,by rw[<-VE.out];exact QQ.out,by rw[<-VE.out];exact AA.out⟩
     case measure=>simp[intOf];omega
   have hpe:(aW (nbS l (aG l ms)) f p).length<=p:=by rw[<-QQ.out.len];omega
   have DO:=aa (yS TF.out HC.out p hpe);have KO:=aa (show vJ l (aW (nbS l (aG l ms)) f p) from fun q hq=>(mX TF.out HC.out p q hq).1);have BO:=aa (fun q hq=>Ho (l:=l) (cal:=aG l ms) f p q hq);have p4:p<=4096:=by omega
   go_wp2_with fail;go_ret;exact⟨D,_,rfl,KO.out,DO.out,fun q hq=>by have:=BO.out q hq;omega,AA.out,LD.out,QQ.out.gr⟩
section
variable {l:List Clk} {cal:List Int->Bool} {V:List (List Int×Int)} {src s:List Int} {e:Int}
def mC(V:List (List Int×Int))(s:List Int)(t:Nbr):Bool:=decide (dz (ba V) t.2.2=dz (ba V) s-1)
theorem Qj(h:jc l cal src (ba V))(hs:ba V s=some e)(he:0<e){u v:Nat}(hu:u<l.length)(hv:(v:Int)<kOf l u):
  ((ba V (s.set u (v:Int))).getD (-1)=e-1->jZ cal s u v=some ((u:Int),(v:Int),s.set u (v:Int))/\mC V s ((u:Int),(v:Int),s.set u (v:Int))=true)/\
  ((ba V (s.set u (v:Int))).getD (-1)≠e-1->(jZ cal s u v).toList.find? (mC V s)=none):=by
 have so:=(h.ok _ _ hs).1;have hz:dz (ba V) s=e:=by simp[dz,hs]
 by_cases hb:(v:Int)≠sOf s u/\cal (s.set u (v:Int))=true
 ·have hn:jZ cal s u v=some ((u:Int),(v:Int),s.set u (v:Int)):=by unfold jZ;rw[if_pos hb]
  have hm:((u:Int),(v:Int),s.set u (v:Int))∈nbS l cal s:=qo.2 ⟨u,v,hu,hv,hb.1,hb.2,rfl⟩;obtain⟨f,hf,_⟩:=h.dist.step s e _ hs hm;simp only at hf;rw[hf];simp only[Option.getD_some];constructor
  ·intro q;refine⟨hn,?_⟩;unfold mC;simp only[dz,hf,hs,Option.getD_some];exact dtx q
  intro q;rw[hn];simp only[Option.toList,List.find?_cons,mC,dz,hf,hs,Option.getD_some];rw[dfx q];rfl
 have hn:jZ cal s u v=none:=by unfold jZ;rw[if_neg hb]
 constructor
 ·intro q;exfalso;by_cases Ik:(v:Int)=sOf s u
  ·have:s.set u (v:Int)=s:=by
    have eX:u<s.length:=(by rw[so.1];exact hu);rw[Ik,lZ eX];exact List.set_getElem_self eX
   rw[this,hs] at q;simp at q;omega
  cases hx:ba V (s.set u (v:Int)) with
  |none=>rw[hx] at q;simp at q;omega
  |some f=>exact hb ⟨Ik,(h.ok _ _ hx).2⟩
 intro _;rw[hn];rfl
def mV(l:List Clk)(cal:List Int->Bool)(V:List (List Int×Int))(s:List Int)(u v:Nat):Prop:=(l8 l cal s u++fa cal s u v).find? (mC V s)=none
theorem Qh:mV l cal V s 0 0:=by simp[mV,l8,fa]
theorem Tf{u:Nat}(h:mV l cal V s u (kOf l u).toNat):mV l cal V s (u+1) 0:=by unfold mV at*;rw[oK];simpa [fa] using h
theorem Qu{u v:Nat}(h:mV l cal V s u v)(h1:(jZ cal s u v).toList.find? (mC V s)=none):mV l cal V s u (v+1):=by unfold mV at*;rw[qj,<-List.append_assoc,List.find?_append,h,h1];rfl
theorem Ol{u v:Nat}(hu:u<l.length)(hv:(v:Int)<kOf l u)(h:mV l cal V s u v){t:Nbr}(h1:jZ cal s u v=some t)(h2:mC V s t=true):(nbS l cal s).find? (mC V s)=some t:=by obtain⟨R,e⟩:=Iv (cal:=cal) s hu (v:=v+1) (by omega);rw[e,qj,h1,<-List.append_assoc,List.find?_append,List.find?_append];unfold mV at h;rw[h];simp[h2]
theorem Tq(h:jc l cal src (ba V))(hs:ba V s=some e)(he:0<e):¬mV l cal V s l.length 0:=by
 intro hn;obtain⟨t,h1,_⟩:=h.found hs he;unfold mV at hn;have:(nbS l cal s).find? (mC V s)=some t:=h1;unfold nbS at this;simp[fa] at hn;rw[List.find?_eq_none.2] at this
 ·cases this
 intro x hx;have:=hn x.1 x.2.1 x.2.2 hx;simpa using this
end
theorem Uz(l:List Clk)(cal:List Int->Bool)(V:List (List Int×Int))(src s:List Int)(e:Int)(al aS:Option Addr)(cl cs D:Nat)(w:World)(h:ag 5 cY w al l)(hc:bA l=0)(hs:ag 1 RI w aS s)(hk:vJ l V)(hd:jc l cal src (ba V))(hse:ba V s=some e)(he:0<e)(he1:e<=4096)
  (hr:Row w D 3 (an (dA l (bF l) V))):
  Calls Tryz.prog 63 #[.slice al l.length cl,.slice aS s.length cs,.slice (some ⟨D,0,none⟩) (bF l) (bF l)] w fun e w'=>∃(u v:Nat) (B c:Nat),e= .returned (.tuple #[.agg #[.int .i64 1,.int .i64 u,.int .i64 v],.slice (some ⟨B,0,none⟩) s.length c])/\(nbS l cal s).find? (mC V s)=some ((u:Int),(v:Int),s.set u (v:Int))/\u<l.length/\(v:Int)<kOf l u/\bd w' B 3 (an (s.set u (v:Int)))/\w.heap.size<=B/\Gr w w':=by
 have zB:=cg (bm hc).1;have PR:=(bm hc).2.2.1;have H:=aa h;have HC:=aa hc;have HS:=aa hs;have SH:=aa (hd.ok _ _ hse).1;have KK:=aa hk;have DD:=aa hd;have SE:=aa hse;have NB:=aa (bm hc).1;have RR:=aa hr;have N1:=aa (fun W (hW:Gr w W) s a c (hs:aI l s) (eX:ag 1 RI W a s)=>tR l s al a cl c W (bj h hW) eX hc hs);obtain⟨N,hN⟩:∃N,bF l=N:=⟨_,rfl⟩;have EN:=aa hN;rw[hN] at PR RR ⊢;have HSL:=aa (hd.ok _ _ hse).1.1;rw[(hd.ok _ _ hse).1.1];clear h hc hs hk hd hse hr hN;go_enter Tryz.func63,Tryz.ntmps63;have P0:Hid (Row (w.alloc (.cells #[.int .i64 0,.int .i64 0,.int .i64 0] 42)) w.heap.size 42 [.int .i64 0,.int .i64 0,.int .i64 0]):=aa (Row.new w _ _);have G0:Hid (Gr w (w.alloc (.cells #[.int .i64 0,.int .i64 0,.int .i64 0] 42))):=aa ((gfl _).alloc _);obtain⟨P,hP⟩:∃P:Nat,Hid (w.heap.size=P):=⟨_,aa rfl⟩;have P1:=aa P0.out;rw[hP.out] at P1;clear P0;go_wp2_with fail;rw[hP.out];go_loopw [14] (fun cJ wr=>∃u:Nat,cJ= .int .i64 (u:Int)/\u<=l.length/\Gr w wr/\Row wr P 42 [.int .i64 0,.int .i64 0,.int .i64 0]/\Hid (mV l cal V s u 0)) (fun cJ _=>l.length-(intOf cJ).toNat);case atStart=>exact⟨0,rfl,Nat.zero_le _,G0.out,P1.out,aa Qh⟩
 case round=>
  clear G0 P1;obtain⟨u,rfl,hu,hg,hp,tZ⟩:=hrel;have GG:=aa hg;have PP:=aa hp;clear hg hp;by_cases sF:u<l.length
  ·have u2:(u:Int)<l.length:=by omega
   obtain⟨fp,fc⟩:=fR NB.out sF;obtain⟨b,o,rfl,⟨d0,_⟩,⟨ap,cp,d1,_⟩,⟨ac,cc,d2,_,d2f,_⟩,⟨d3,_⟩,⟨d4,_⟩⟩:=bj H.out GG.out u sF;have dh:=ae d0;unfold Fit at d2f;have KU:=aa (lu sF);obtain⟨K,hK⟩:∃K,l[u].choices.length=K:=⟨_,rfl⟩;rw[hK] at KU;have GA:Hid (Gr wr (wr.alloc (.cells #[.int .i64 l[u].kind,.slice ap l[u].parents.length cp,.slice ac K cc,.int .i64 l[u].low,.int .i64 l[u].high] 130))):=aa ((gfl _).alloc _);have G1:=aa (GG.out.trans GA.out);have P1:=aa (PP.out.gr GA.out);have K8:K<=8:=by omega
   go_wp2_with fail;clear d0 d1 d2 d3 d4 dh;go_loopw [22] (fun dI wr=>∃v:Nat,dI= .int .i64 (v:Int)/\v<=K/\Gr w wr/\Row wr P 42 [.int .i64 0,.int .i64 0,.int .i64 0]/\Hid (mV l cal V s u v)) (fun dI _=>K-(intOf dI).toNat);case atStart=>exact⟨0,rfl,Nat.zero_le _,G1.out,P1.out,tZ⟩
   case round=>
    clear G1 P1 GA GG PP tZ hK;obtain⟨v,rfl,hv,hg,hp,tZ⟩:=hrel;have GG:=aa hg;have PP:=aa hp;clear hg hp;by_cases hvk:v<K
    ·have v2:(v:Int)<K:=(by omega);have vk:(v:Int)<kOf l u:=(by rw[KU.out];exact v2);obtain⟨x,hx⟩:∃x,s.set u (v:Int)=x:=⟨_,rfl⟩;have SX:Hid (aI l x):=aa (by rw[<-hx];exact SH.out.set sF (by omega) vk);have NE:=aa (Qj DD.out SE.out he sF vk);rw[hx] at NE;have FS:=aa (fun t h1 h2=>Ol (cal:=cal) (V:=V) (s:=s) sF vk tZ.out (t:=t) h1 h2);have NS1:=aa (fun h1=>Qu (l:=l) (cal:=cal) (V:=V) (s:=s) (u:=u) (v:=v) tZ.out h1);have CH:=xA s u (v:Int) aS cs wr (HS.out.giI GG.out) (by have:=HSL.out;omega) (by have:=HSL.out;omega);rw[hx,HSL.out] at CH;have CH':=aa CH;have HX:=aa hx;have VK:=aa vk;clear CH hx vk tZ;go_wp2_with fail;refine CH'.out.mono ?_;rintro e' w4 ⟨B,cx,rfl,tn,Ls,Hc⟩;have RX:=aa tn;have G4:=aa (GG.out.trans Hc);have P4:=aa (PP.out.gr Hc);have BX:Hid (w.heap.size<=B):=aa (by have:=GG.out.size;omega);clear tn Ls Hc GG PP CH';have NX:Hid (∀W,Gr w4 W->Calls Tryz.prog 62 #[.slice (some ⟨b,o,none⟩) l.length cl,.slice (some ⟨B,0,none⟩) l.length cx] W (aN W (.int .i64 (num l x)))):=aa (fun W hW=>by
      have:=N1.out W (G4.out.trans hW) x (some ⟨B,0,none⟩) cx SX.out ((RX.out.gr hW).slI (gm HC.out SX.out));rwa [SX.out.1] at this)
     have NS:Hid (∀W,Gr w4 W->Calls Tryz.prog 62 #[.slice (some ⟨b,o,none⟩) l.length cl,.slice aS l.length cs] W (aN W (.int .i64 (num l s)))):=aa (fun W hW=>by have:=N1.out W (G4.out.trans hW) s aS cs SH.out (HS.out.giI (G4.out.trans hW));rwa [SH.out.1] at this)
     have nbx:=mO SX.out;have nbs:=mO SH.out;rw[EN.out] at nbx nbs;obtain⟨m,hm⟩:∃m:Nat,num l x=(m:Int):=⟨(num l x).toNat,by omega⟩;obtain⟨q,hq⟩:∃m:Nat,num l s=(m:Int):=⟨(num l s).toNat,by omega⟩;rw[hm] at NX nbx;rw[hq] at NS nbs;have HM:=aa hm;have HQ:=aa hq;have RD:=aa (RR.out.gr G4.out);have mk:m<(dA l N V).length:=(by rw[xR];omega);have qk:q<(dA l N V).length:=(by rw[xR];omega);have c0:=RD.out.iat m mk;have c1:=RD.out.iat q qk;rw[Ek KK.out SX.out HM.out mk] at c0;rw[Ek KK.out SH.out HQ.out qk,SE.out] at c1;simp only[Option.getD_some] at c1;obtain⟨dx,zK⟩:∃dx,(ba V x).getD (-1)=dx:=⟨_,rfl⟩;rw[zK] at c0 NE;have ch:=RD.out.has;have m2:(m:Int)<N:=(by omega);have q2:(q:Int)<N:=(by omega);have ew:IntKind.i64.wrap (e-1)=e-1:=(by rw[IntKind.wrap_i64];omega);clear hm hq zK mk qk nbx nbs;go_wp2_with fail;refine ar (by kernel_rfl) (by kernel_rfl) ?_;repeat(go_big_quiet_step (first|(go_at_call 62;first|with_reducible exact bJ (NX.out _ grr)|with_reducible exact bJ (NS.out _ grr))))
     refine wpQuiet_nil ?_;rintro _ ⟨⟨O,d⟩,rfl⟩;obtain⟨w5,hw5⟩:∃w5:World,Hid (w5=xt w4 O d):=⟨_,aa rfl⟩;have H5:Hid (Gr w4 w5):=aa (by rw[hw5.out];exact(gfl _).xt _ _);show Exit.then _ _ _ _ (xt w4 O d);rw[<-hw5.out];have G5:=aa (G4.out.trans H5.out);have P5:=aa (P4.out.gr H5.out);have R5:=aa (RX.out.gr H5.out);clear hw5 c0 c1 ch G4 P4 RX NX NS RD;by_cases zK:dx=e-1
     ·have db:(dx==e-1)=true:=(by simp[zK]);obtain⟨n1,n2⟩:=NE.out.1 zK;have FD:=aa (FS.out _ n1 n2);have p0:=P5.out.cell 0 (by simp);have p1:=P5.out.cell 1 (by simp);have p2:=P5.out.cell 2 (by simp);have ph:=P5.out.has;have pf0:=P5.out.free 0;have pf1:=P5.out.free 1;have pf2:=P5.out.free 2;simp only[List.getElem_cons_zero,List.getElem_cons_succ] at p0 p1 p2;clear zK n1 n2;obtain⟨W6,hW6⟩:∃W6:World,Hid (W6=((w5.setCell ⟨P,0,none⟩ (.int .i64 1)).setCell ⟨P,1,none⟩ (.int .i64 (u:Int))).setCell ⟨P,2,none⟩ (.int .i64 (v:Int))):=⟨_,aa rfl⟩;have R6:Hid (Row W6 P 42 [.int .i64 1,.int .i64 u,.int .i64 v]):=aa (by
       rw[hW6.out];exact((P5.out.set 0 (.int .i64 1)).set 1 (.int .i64 (u:Int))).set 2 (.int .i64 (v:Int)))
      have pw:w.heap.size<=P:=(by rw[hP.out];exact Nat.le_refl _);have G6:Hid (Gr w W6):=aa (by rw[hW6.out];exact((G5.out.setc pw).setc pw).setc pw)
      have X6:Hid (bd W6 B 3 (an x)):=aa (by have ne:B≠P:=R5.out.apart P5.out.s (by decide);rw[hW6.out];obtain⟨r,hr⟩:=R5.out;exact⟨r,((hr.oth (fun e=>ne e.symm)).oth (fun e=>ne e.symm)).oth (fun e=>ne e.symm)⟩)
      clear pw;go_wp2_with fail;rw[<-hW6.out];have z0:=R6.out.cell 0 (by simp);have z1:=R6.out.cell 1 (by simp);have z2:=R6.out.cell 2 (by simp);simp only[List.getElem_cons_zero,List.getElem_cons_succ] at z0 z1 z2;refine bodyPost_ret (v:= .tuple #[.agg #[.int .i64 1,.int .i64 u,.int .i64 v],.slice (some ⟨B,0,none⟩) l.length cx]) ?_ rfl ?_
      ·simp[results,Tryz.results63,go_sem,z0,z1,z2]
      refine⟨u,v,B,cx,rfl,?_,sF,VK.out,?_,BX.out,G6.out⟩
      ·rw[HX.out];exact FD.out
      rw[HX.out];exact X6.out
     have db:(dx==e-1)=false:=(by simp[zK]);have ND:=aa (NS1.out (NE.out.2 zK));clear zK;go_wp2_with fail;go_roundw;case rel=>exact⟨v+1,by simp,by omega,G5.out,P5.out,ND⟩
     case measure=>simp[intOf];omega
    obtain rfl:v=K:=by omega
    have ND:Hid (mV l cal V s (u+1) 0):=aa (Tf (by rw[KU.out];simpa using tZ.out));go_wp2_with fail;go_roundw;case rel=>exact⟨u+1,by simp,by omega,GG.out,PP.out,ND⟩
    case measure=>simp[intOf];omega
  obtain rfl:u=l.length:=by omega
  exact absurd tZ.out (Tq DD.out SE.out he)
theorem xU(l:List Clk)(ms:List Lmt)(f t:List Int)(al am af at':Option Addr)(cl cm cf ct:Nat)(w:World)(h:qO w l ms f t al am af at'):
  Calls Tryz.prog 60 #[.slice al l.length cl,.slice af f.length cf,.slice at' t.length ct,.slice am ms.length cm] w (aN w (.int .i64 (ju l ms f t))):=by
 have S0:=aa (fun W (hW:Gr w W)=>j4 l al cl W (h.gr hW).clks h.fl);have S1:=aa (fun W (hW:Gr w W)=>F8 l ms al am cl cm W (h.gr hW).clks (h.gr hW).lmts h.fl h.fm);have S2:=aa (fun W (hW:Gr w W)=>rW l f al af cl cf W (h.gr hW).clks (h.gr hW).sf h.fl h.ff);have S3:=aa (fun W (hW:Gr w W)=>rW l t al at' cl ct W (h.gr hW).clks (h.gr hW).st h.fl h.ft);by_cases hc:bA l=0
 ·rw[hc] at S0;have go1:∀(x y z:Bool),decide (fC l ms)=x->decide (bA l=0/\aI l f)=y->decide (bA l=0/\aI l t)=z->(x&&y&&z)=false->ju l ms f t=1:=by
   intro x y z hx hy hz CE;unfold ju;rw[if_pos hc,if_neg];rintro⟨p1,p2,p3⟩;rw[dtx p1] at hx;rw[dtx ⟨hc,p2⟩] at hy;rw[dtx ⟨hc,p3⟩] at hz;subst hx hy hz;simp at CE
  obtain⟨x,hx⟩:∃x,decide (fC l ms)=x:=⟨_,rfl⟩;obtain⟨y,hy⟩:∃x,decide (bA l=0/\aI l f)=x:=⟨_,rfl⟩;obtain⟨z,hz⟩:∃x,decide (bA l=0/\aI l t)=x:=⟨_,rfl⟩;by_cases aH:(x&&y&&z)=true
  ·obtain⟨rfl,rfl,rfl⟩:x=true/\y=true/\z=true:=by simpa [and_assoc] using aH
   have p1:=of_decide_eq_true hx;have p2:=(of_decide_eq_true hy).2;have p3:=(of_decide_eq_true hz).2;have C2:=aa (fun W (hW:Gr w W)=>wh l ms f al af am cl cf cm W (h.gr hW).clks (h.gr hW).sf (h.gr hW).lmts hc p2 p1.2);have C3:=aa (fun W (hW:Gr w W)=>wh l ms t al at' am cl ct cm W (h.gr hW).clks (h.gr hW).st (h.gr hW).lmts hc p3 p1.2);have E:=aa (show ju l ms f t=if aG l ms f=true/\aG l ms t=true then 0 else 7 by unfold ju;rw[if_pos hc,if_pos ⟨p1,p2,p3⟩]);rw[hx] at S1;rw[hy] at S2;rw[hz] at S3;obtain⟨u,hu⟩:∃x,aG l ms f=x:=⟨_,rfl⟩;obtain⟨v,hv⟩:∃x,aG l ms t=x:=⟨_,rfl⟩;rw[hu] at C2;rw[hv] at C3;rw[hu,hv] at E;obtain⟨R,hR⟩:∃R,ju l ms f t=R:=⟨_,rfl⟩;rw[hR] at E ⊢;clear hR hu hv p1 p2 p3 hx hy hz aH hc h go1;go_enter Tryz.func60,Tryz.ntmps60;go_wp2_with fail;refine(S0.out _ (gfl _)).mono ?_;rintro e w1 ⟨rfl,bD⟩;have G1:=aa bD;clear bD;go_wp2_with fail;refine(S1.out _ G1.out).mono ?_;rintro e w2 ⟨rfl,bY⟩;have G2:=aa (G1.out.trans bY);clear bY;go_wp2_with fail;refine(S2.out _ G2.out).mono ?_;rintro e w3 ⟨rfl,cG⟩;have G3:=aa (G2.out.trans cG);clear cG;go_wp2_with fail;refine(S3.out _ G3.out).mono ?_;rintro e w4 ⟨rfl,gy⟩;have G4:=aa (G3.out.trans gy);clear gy;go_wp2_with fail;refine(C2.out _ G4.out).mono ?_;rintro e w5 ⟨rfl,jl⟩;have G5:=aa (G4.out.trans jl);clear jl;cases u
   ·have e:R=7:=(by rw[E.out];simp);have EE:=aa e;clear e E;go_wp2_with fail;go_ret;exact⟨by rw[EE.out];rfl,G5.out⟩
   go_wp2_with fail;refine(C3.out _ G5.out).mono ?_;rintro e w6 ⟨rfl,jU⟩;have G6:=aa (G5.out.trans jU);clear jU;cases v
   ·have e:R=7:=(by rw[E.out];simp);have EE:=aa e;clear e E;go_wp2_with fail;go_ret;exact⟨by rw[EE.out];rfl,G6.out⟩
   have e:R=0:=by rw[E.out];simp
   have EE:=aa e;clear e E;go_wp2_with fail;go_ret;exact⟨by rw[EE.out];rfl,G6.out⟩
  rw[go1 x y z hx hy hz (by simpa using aH)];rw[hx] at S1;rw[hy] at S2;rw[hz] at S3;clear hx hy hz go1 hc h;go_enter Tryz.func60,Tryz.ntmps60;go_wp2_with fail;refine(S0.out _ (gfl _)).mono ?_;rintro e w1 ⟨rfl,bD⟩;have G1:=aa bD;clear bD;go_wp2_with fail;refine(S1.out _ G1.out).mono ?_;rintro e w2 ⟨rfl,bY⟩;have G2:=aa (G1.out.trans bY);clear bY;cases x
  ·clear aH;go_wp2_with fail;go_ret;exact⟨rfl,G2.out⟩
  go_wp2_with fail;refine(S2.out _ G2.out).mono ?_;rintro e w3 ⟨rfl,cG⟩;have G3:=aa (G2.out.trans cG);clear cG;cases y
  ·clear aH;go_wp2_with fail;go_ret;exact⟨rfl,G3.out⟩
  go_wp2_with fail;refine(S3.out _ G3.out).mono ?_;rintro e w4 ⟨rfl,gy⟩;have G4:=aa (G3.out.trans gy);clear gy;cases z
  ·clear aH;go_wp2_with fail;go_ret;exact⟨rfl,G4.out⟩
  exact absurd rfl aH
 have E:=aa (show ju l ms f t=bA l by unfold ju;rw[if_neg hc]);rw[E.out];obtain⟨B,hB⟩:∃B,bA l=B:=⟨_,rfl⟩;rw[hB] at S0 hc ⊢;have hb:(B !=0)=true:=by simp[hc]
 clear E hB h S1 S2 S3;go_enter Tryz.func60,Tryz.ntmps60;go_wp2_with fail;refine(S0.out _ (gfl _)).mono ?_;rintro e w1 ⟨rfl,bD⟩;have G1:=aa bD;clear bD;go_wp2_with fail;go_ret;exact⟨rfl,G1.out⟩
def Bv(l:List Clk)(ms:List Lmt)(f t:List Int)(al am:Option Addr)(cl cm:Nat)(w:World)(e:Ending)(w':World):Prop:=
 Gr w w'/\(ju l ms f t=0->∃BK,e= .returned (.tuple #[spV l ms al am cl cm BK,.int .i64 0])/\w.heap.size<=BK/\Dp w' BK [])/\(ju l ms f t≠0->e= .returned (.tuple #[.agg #[.slice none 0 0,.slice none 0 0,.map none],.int .i64 (ju l ms f t)]))
theorem Jz(l:List Clk)(ms:List Lmt)(f t:List Int)(al am af at':Option Addr)(cl cm cf ct:Nat)(w:World)(h:qO w l ms f t al am af at'):
  Calls Tryz.prog 115 #[.slice al l.length cl,.slice af f.length cf,.slice at' t.length ct,.slice am ms.length cm] w (Bv l ms f t al am cl cm w):=by
 have S0:=aa (fun W (hW:Gr w W)=>ni l al cl W (h.gr hW).clks h.fl);have S1:=aa (fun W (hW:Gr w W)=>qF l ms al am cl cm W (h.gr hW).clks h.fl (h.gr hW).lmts h.fm);have S2:=aa (fun W (hW:Gr w W)=>js l f al af cl cf W (h.gr hW).clks (h.gr hW).sf h.fl h.ff);have S3:=aa (fun W (hW:Gr w W)=>js l t al at' cl ct W (h.gr hW).clks (h.gr hW).st h.fl h.ft);by_cases hc:bA l=0
 ·by_cases aH:fC l ms/\aI l f/\aI l t
  ·refine(Hj l ms f t al am af at' cl cm cf ct w (h.env aH.1) aH.2.1 aH.2.2 h.sf h.st).mono ?_;rintro e w' ⟨hg,h1,h2⟩;have E:ju l ms f t=if aG l ms f=true/\aG l ms t=true then 0 else 7:=by unfold ju;rw[if_pos hc,if_pos aH]
   refine⟨hg,fun h0=>h1 ?_,fun h0=>?_⟩
   ·obtain⟨_,_,_,q1,q2⟩:=sQ h0;rw[q1,q2];rfl
   have hn:¬(aG l ms f=true/\aG l ms t=true):=fun q=>h0 (by rw[E,if_pos q]);rw[E,if_neg hn];refine h2 ?_;cases a:aG l ms f<;>cases b:aG l ms t<;>simp_all
  have E:ju l ms f t=1:=by unfold ju;rw[if_pos hc,if_neg aH]
  unfold Bv;rw[E];rw[hc] at S0;have CE:¬(decide (fC l ms)=true/\decide (bA l=0/\aI l f)=true/\decide (bA l=0/\aI l t)=true):=fun⟨a,b,c⟩=>aH ⟨of_decide_eq_true a,(of_decide_eq_true b).2,(of_decide_eq_true c).2⟩;obtain⟨x,hx⟩:∃x,decide (fC l ms)=x:=⟨_,rfl⟩;obtain⟨y,hy⟩:∃x,decide (bA l=0/\aI l f)=x:=⟨_,rfl⟩;obtain⟨z,hz⟩:∃x,decide (bA l=0/\aI l t)=x:=⟨_,rfl⟩;rw[hx] at S1;rw[hy] at S2;rw[hz] at S3;rw[hx,hy,hz] at CE;clear hx hy hz hc h E aH;go_enter Tryz.func115,Tryz.ntmps115;go_wp2_with fail;refine(S0.out _ ((gfl _).alloc _)).mono ?_;rintro e w1 ⟨rfl,O1,D1,rfl⟩;go_wp2_with fail;refine(S1.out _ grr).mono ?_;rintro e w2 ⟨rfl,O2,D2,rfl⟩;cases x
  ·clear CE;go_wp2_with fail;refine bodyPost_ret (v:= .tuple #[.agg #[.slice none 0 0,.slice none 0 0,.map none],.int .i64 1]) ?_ rfl ?_
   ·simp[results,Tryz.results115,go_sem]
   exact⟨grr,fun h=>absurd h (by decide),fun _=>rfl⟩
  go_wp2_with fail;refine(S2.out _ grr).mono ?_;rintro e w3 ⟨rfl,O3,D3,rfl⟩;cases y
  ·clear CE;go_wp2_with fail;refine bodyPost_ret (v:= .tuple #[.agg #[.slice none 0 0,.slice none 0 0,.map none],.int .i64 1]) ?_ rfl ?_
   ·simp[results,Tryz.results115,go_sem]
   exact⟨grr,fun h=>absurd h (by decide),fun _=>rfl⟩
  go_wp2_with fail;refine(S3.out _ grr).mono ?_;rintro e w4 ⟨rfl,O4,D4,rfl⟩;cases z
  ·clear CE;go_wp2_with fail;refine bodyPost_ret (v:= .tuple #[.agg #[.slice none 0 0,.slice none 0 0,.map none],.int .i64 1]) ?_ rfl ?_
   ·simp[results,Tryz.results115,go_sem]
   exact⟨grr,fun h=>absurd h (by decide),fun _=>rfl⟩
  exact(CE (by simp)).elim
 have E:ju l ms f t=bA l:=by unfold ju;rw[if_neg hc]
 unfold Bv;rw[E];obtain⟨B,hB⟩:∃B,bA l=B:=⟨_,rfl⟩;rw[hB] at S0 hc ⊢;have hb:(B !=0)=true:=by simp[hc]
 have HC:=aa hc;clear E hB h S1 S2 S3;go_enter Tryz.func115,Tryz.ntmps115;go_wp2_with fail;refine(S0.out _ ((gfl _).alloc _)).mono ?_;rintro e w1 ⟨rfl,O1,D1,rfl⟩;go_wp2_with fail;refine(S0.out _ grr).mono ?_;rintro e w2 ⟨rfl,O2,D2,rfl⟩;go_wp2_with fail;refine bodyPost_ret (v:= .tuple #[.agg #[.slice none 0 0,.slice none 0 0,.map none],.int .i64 B]) ?_ rfl ?_
 ·simp[results,Tryz.results115,go_sem]
 exact⟨grr,fun h=>absurd h HC.out,fun _=>rfl⟩
end Go.Proofs.YtlmhkjdkcoiioaaGreatDoor
