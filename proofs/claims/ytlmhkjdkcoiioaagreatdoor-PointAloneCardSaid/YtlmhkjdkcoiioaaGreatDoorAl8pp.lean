/- Lemmas and contracts for the proof of PointAlone (several texts in one, printed by wip/tools/pack.py): Lc OsA GaA SeG ZInv QaDd QaM TrA CsP DsP. -/
import Derived.Test.YtlmhkjdkcoiioaaGreatDoorAl8pj
import Derived.Test.YtlmhkjdkcoiioaaGreatDoorAl8pk
import Derived.Test.YtlmhkjdkcoiioaaGreatDoorAl8po
import Derived.Test.YtlmhkjdkcoiioaaGreatDoorAl8pn
import Derived.Test.YtlmhkjdkcoiioaaGreatDoorAl8pa
import Derived.Test.YtlmhkjdkcoiioaaGreatDoorAl8pb
import Derived.Test.YtlmhkjdkcoiioaaGreatDoorAl8pm
set_option maxRecDepth 100000
set_option maxHeartbeats 16000000
set_option linter.unusedVariables false
set_option linter.unusedSimpArgs false
namespace Go.Proofs.YtlmhkjdkcoiioaaGreatDoor
section
open Go.RowKit
open Classical
def Ro(b len n:Nat)(w:World)(l:List Clk)(e:Ending)(w':World):Prop:=
 ∃(ms:List Lmt) (v:Value),e= .returned v/\w'.ownsRow w.heap.size 155 3 v ms.length (ms.flatMap xG)/\ms.length<=n/\(∀j (h:j<ms.length),lF l ms[j])/\Mv b len w w'
structure LI(b len base:Nat)(w:World)(ts:List CT)(g c:Nat)(R:List Rt)(v1 v2:Value)(wr:World):Prop where
 own:wr.ownsRow base 130 5 (.slice (some ⟨g,0,none⟩) ts.length c) ts.length (ts.flatMap iE)
 rows:dF base wr ts
 r1:wr.ownsRow w.heap.size 57 2 v1 ts.length (gu (R.map prR))
 r2:wr.ownsRow w.heap.size 4 1 v2 ts.length (bg (onL R))
 mv:Mv b len w wr
section
variable {b len base:Nat} {w:World} {ts:List CT} {g c:Nat} {R:List Rt} {v1 v2:Value} {wr w':World}
theorem LI.mvd(h:LI b len base w ts g c R v1 v2 wr)(hb:b<base)(hw:b<w.heap.size)(m:Mv b len wr w'):LI b len base w ts g c R v1 v2 w':=
 ⟨m.owns h.own hb,fun t ht=>(h.rows t ht).mv m hb,m.owns h.r1 hw,m.owns h.r2 hw,h.mv.trans hw m⟩
theorem LI.gr(h:LI b len base w ts g c R v1 v2 wr)(hg:Gr wr w'):LI b len base w ts g c R v1 v2 w':=
 ⟨Gr.owns h.own hg,fun t ht=>(h.rows t ht).gr hg,Gr.owns h.r1 hg,Gr.owns h.r2 hg,h.mv.gr hg⟩
theorem LI.app(h:LI b len base w ts g c R v1 v2 wr){e size n:Nat}{v:Value}{xs:List Value}(o:wr.ownsRow w.heap.size e size v n xs)(e1:e≠130)(e2:e≠3)(e3:e≠57)(e4:e≠4)(hg:wr.grownBy w' v.ownBlock):LI b len base w ts g c R v1 v2 w' where
 own:=h.own.kept hg (mc o h.own e1)
 rows:=fun t ht=>(h.rows t ht).grown hg (fun B vs hB=>aJ o hB (Ne.symm e2))
 r1:=h.r1.kept hg (mc o h.r1 e3)
 r2:=h.r2.kept hg (mc o h.r2 e4)
 mv:=h.mv.grown hg (fun k e=>(o.lt k e).1)
end
theorem Pf(w:World)(b len base n c:Nat)(a:Option Addr)(ts:List CT)(ht:Tp w b len)(hb:b<base)(ho:w.ownsRow base 130 5 (.slice a ts.length c) ts.length (ts.flatMap iE))(hr:dF base w ts)(rE:bA (clks ts)=0)(h1:1<=ts.length)(hl:ts.length<=16)(hn:n<=6):
  Calls Tryz.prog 50 #[.pointer (some ⟨b,0,none⟩),.slice a ts.length c,.int .i64 n] w (Ro b len n w (clks ts)):=by
 have TT:=aa ht;have HB:=aa hb;have HW:=aa ht.has;obtain⟨g,c',e,_⟩:=fM ho (by omega);cases e
 obtain⟨j0,hj,kN,ka,lg⟩:=info_parts WE;have O2:=aa ho;have R2:=aa hr;have CK:=aa rE;have HC1:=aa (qe (bm rE).2.1);have SA:=aa (xk w b len base c (some ⟨g,0,none⟩) ts ht hb ho hr (by omega) HC1.out);clear ht hb ho hr rE;go_enter Tryz.func50,Tryz.ntmps50;go_wp2_with fail;refine SA.out.mono ?_;rintro e w3 ⟨f,vf,rfl,hof,hsf,iz⟩;have O3:=aa (iz.owns O2.out HB.out);have R3:Hid (dF base w3 ts):=aa (fun t ht=>(R2.out t ht).mv iz HB.out);have M3:=aa iz;obtain⟨af,cf,rfl,sf3⟩:=sV hof (gm CK.out hsf);have hcl:(clks ts).length=ts.length:=ez ts;obtain⟨_,_,eq3,_,sl3⟩:=yi O3.out R3.out (by omega);cases eq3
 have STS:=sq (clks ts) f (some ⟨g,0,none⟩) af c cf w3 sl3 sf3 CK.out hsf;rw[hsf.1,hcl] at STS;have STS':=aa STS;have RG:=aa (pY CK.out hsf);have HRL:Hid ((rts (clks ts) f).length=ts.length):=aa (by rw[kt _ _ hsf.1.symm,hcl]);have HCL:=aa hcl;clear hof hsf iz SA STS sl3 sf3 O2 R2;rw[hcl];clear hcl;go_wp2_with fail;refine STS'.out.mono ?_;rintro e w4 ⟨v1,v2,rfl,wL,wY,gy⟩;rw[HCL.out] at wL wY;obtain⟨a1,c1,rfl⟩:=be wL;obtain⟨a2,c2,rfl⟩:=be wY;obtain⟨R,eR⟩:∃R,rts (clks ts) f=R:=⟨_,rfl⟩;rw[eR] at wL wY RG HRL;have C4:Hid (LI b len base w ts g c R (.slice a1 ts.length c1) (.slice a2 ts.length c2) w4):=aa
  ⟨Gr.owns O3.out gy,fun t ht=>(R3.out t ht).gr gy,jS wL M3.out.size,jS wY M3.out.size,M3.out.gr gy⟩
 clear wL wY gy eR STS' O3 R3 M3;go_wp2_with fail;refine(k7 w4 b len ((n:Int)+1) (C4.out.mv.tp TT.out) (by omega) (by omega)).mono ?_;rintro e w5 ⟨m0,rfl,⟨Vt,XR⟩,jn⟩;obtain⟨m0,rfl⟩:=Int.eq_ofNat_of_zero_le Vt;have C5:=aa (C4.out.mvd HB.out HW.out jn);clear jn C4;go_wp2_with fail;go_loopw [10,11] (fun fQ dR wr=>∃(ms:List Lmt) (q:Nat) (am:Option Addr) (cm:Nat),fQ= .slice am ms.length cm/\dR= .int .i64 (q:Int)/\ms.length+q<=n/\wr.ownsRow w.heap.size 155 3 (.slice am ms.length cm) ms.length (ms.flatMap xG)/\(∀j (h:j<ms.length),lF (clks ts) ms[j])/\LI b len base w ts g c R (.slice a1 ts.length c1) (.slice a2 ts.length c2) wr) (fun _ dR _=>(intOf dR).toNat);case atStart=>exact⟨[],m0,none,0,rfl,rfl,by simp;omega,World.ownsRow_nil _ _ _ _,fun j h=>by simp at h,C5.out⟩
 case round=>
  clear C5 XR Vt;obtain⟨ms,q,am,cm,rfl,rfl,hmn,hom,kL,hco⟩:=hrel;have OM:=aa hom;have LM:=aa kL;have CO1:=aa hco;clear hom kL hco;cases q with
  |zero=>go_wp2_with fail;go_ret;exact⟨ms,_,rfl,OM.out,by omega,LM.out,CO1.out.mv⟩
  |succ q=>
   go_wp2_with fail;refine(k7 wr b len ts.length (CO1.out.mv.tp TT.out) (by omega) (by omega)).mono ?_;rintro e w6 ⟨k,rfl,⟨k0,k1⟩,fS⟩;obtain⟨k,rfl⟩:=Int.eq_ofNat_of_zero_le k0;have C6:=aa (CO1.out.mvd HB.out HW.out fS);have OM6:=aa (fS.owns OM.out HW.out);clear fS CO1 OM;obtain⟨_,_,er,Av⟩:=nD HRL.out C6.out.r1;cases er
   have hkR:k<R.length:=by have:=HRL.out;omega
   obtain⟨g1,rfl,q0,q1⟩:=Av k hkR;have e:=uH hkR;have jv:=RG.out k hkR;rw[<-e] at jv;obtain⟨r,qB⟩:∃r,cZ R k=r:=⟨_,rfl⟩;rw[qB] at q0 q1 jv;have gh1:=ae q0;have kl:(k:Int)<ts.length:=by omega
   obtain⟨rn,ern⟩:∃rn,fW r=rn:=⟨_,rfl⟩;obtain⟨rd,erd⟩:∃rd,gC r=rd:=⟨_,rfl⟩;have hv:bU rn rd=true:=by
    cases r with
    |none=>rw[<-ern,<-erd];rfl
    |some nd=>rw[<-ern,<-erd];exact(jv nd.1 nd.2 rfl).1
   rw[ern] at q0;rw[erd] at q1;obtain⟨u1,u2,u3,u4,u5⟩:=dX hv;have fl0:=U1 rn rd (by omega) u3;have fl1:=TB rn rd (by omega) u3 u2;clear hv u5 jv Av qB e ern erd;go_wp2_with fail;refine(wn rn rd w6 (by omega) (by omega) (by omega) (by omega)).mono ?_;rintro e w7 ⟨rfl,jT⟩;obtain⟨fl,efl⟩:∃fl,qJ rn rd=fl:=⟨_,rfl⟩;rw[efl] at fl0 fl1 ⊢;have C7:=aa (C6.out.gr jT);have OM7:=aa (Gr.owns OM6.out jT);obtain⟨f2,hf2⟩:∃f2:Int,(if 4000000000<fl then 4000000000 else fl)=f2:=⟨_,rfl⟩;have hf20:0<=f2/\f2<=4000000000:=by rw[<-hf2];split<;>omega
   have F2:=aa hf20;obtain⟨mL,nE⟩:=hf20;clear jT C6 OM6 q0 q1 gh1 efl;go_wp2_with fail;refine(dG w7 b len (C7.out.mv.tp TT.out) _ rfl #[.int .i64 0,.int .i64 1,.int .i64 10,.int .i64 f2] 4 [0,1,10,f2] (gv 0 4000000000) rfl rfl (by omega) (by omega) (by simp[gv];omega)).mono ?_;rintro e w8 ⟨x1,rfl,⟨fN,Zr⟩,hm8⟩;have C8:=aa (C7.out.mvd HB.out HW.out hm8);have OM8:=aa (hm8.owns OM7.out HW.out);obtain⟨lo,vU⟩:∃lo:Int,(if x1<f2 then f2-x1 else 0)=lo:=⟨_,rfl⟩;have hlo0:0<=lo/\lo<=f2:=by rw[<-vU];split<;>omega
   have LO:=aa hlo0;clear hm8 C7 OM7 hf2 hlo0;go_wp2_with fail;refine(dG w8 b len (C8.out.mv.tp TT.out) _ rfl #[.int .i64 0,.int .i64 1,.int .i64 5,.int .i64 100] 4 [0,1,5,100] (gv 0 100) rfl rfl (by omega) (by omega) (by simp[gv])).mono ?_;rintro e w9 ⟨x2,rfl,⟨x20,ZQ⟩,tW⟩;have C9:=aa (C8.out.mvd HB.out HW.out tW);have OM9:=aa (tW.owns OM8.out HW.out);obtain⟨y,hy⟩:∃y:Int,(if f2+x2<4000000000 then f2+x2 else 4000000000)=y:=⟨_,rfl⟩;have hy01:lo<=y/\y<=4000000000:=by have:=LO.out;rw[<-hy];split<;>omega
   have gA:Gr w9 (w9.alloc (.cells #[.int .i64 k,.int .i64 lo,.int .i64 y] 155)):=(gfl _).alloc _;obtain⟨N9,hN9⟩:∃N9:Nat,Hid (w9.heap.size=N9):=⟨_,aa rfl⟩;obtain⟨WA,hWA⟩:∃WA:World,Hid (WA=(w9.alloc (.cells #[.int .i64 k,.int .i64 lo,.int .i64 y] 155)).alloc (.cells #[.int .i64 k,.int .i64 lo,.int .i64 y] 155)):=⟨_,aa rfl⟩;have gA2:Gr w9 WA:=by rw[hWA.out];exact gA.alloc _
   have OMa:=aa (Gr.owns OM9.out gA2);have Ca:=aa (C9.out.gr gA2);have CC:Hid (∀j u,([Value.int .i64 k,.int .i64 lo,.int .i64 y])[j]?=some u->WA.cell? ((⟨N9+1,0,none⟩:Addr).add j)=some u):=aa (by have:=fY (Row.new (w9.alloc (.cells #[.int .i64 k,.int .i64 lo,.int .i64 y] 155)) #[.int .i64 k,.int .i64 lo,.int .i64 y] 155);rw[<-hWA.out] at this;have e:(w9.alloc (.cells #[.int .i64 k,.int .i64 lo,.int .i64 y] 155)).heap.size=N9+1:=(by simp[hN9.out]);rw[e] at this;exact this)
   have one:Hid (∀u∈ [Value.int .i64 k,.int .i64 lo,.int .i64 y],u.oneCell'=true):=aa (by intro u hu;simp only[List.mem_cons,List.not_mem_nil,or_false] at hu;rcases hu with rfl|rfl|rfl<;>rfl)
   have base:Hid (w.heap.size<=WA.heap.size):=aa Ca.out.mv.size;have Y:=aa hy01;clear tW C8 OM8 gA gA2 hy01 vU;go_wp2_with (first
    |(at_builtin;rw[<-hWA.out,hN9.out];refine wpList_append_own _ rfl _ _ 30 rfl w.heap.size 155 j0 (.agg #[.int .i64 0,.int .i64 0,.int .i64 0]) 3 24 Tryz.underlying30 hj kN ka lg rfl (by decide) (.slice am ms.length cm) ms.length (ms.flatMap xG) rfl OMa.out ⟨N9+1,0,none⟩ 1 1 [.int .i64 k,.int .i64 lo,.int .i64 y] rfl rfl CC.out one.out (by unfold maxLen;omega) (by omega) base.out ?_;intro v' W9 aV aE eJ;obtain⟨a9,c9,rfl⟩:=be aV;have O9:=aa aV;have C9:=aa (Ca.out.app OMa.out (by decide) (by decide) (by decide) (by decide) aE);clear aV aE eJ)
    |fail)
   go_roundw;case rel=>
    refine⟨ms++ [⟨k,lo,y⟩],q,a9,c9,by simp,by go_num,by simp;omega,?_,?_,C9.out⟩
    ·have:=O9.out;simpa [xG] using this
    intro j hj;by_cases e:j<ms.length
    ·rw[List.getElem_append_left e];exact LM.out j e
    have:j=ms.length:=(by simp at hj;omega);subst this;simp only[List.getElem_append_right (Nat.le_refl _),Nat.sub_self,List.getElem_cons_zero];have h1:=LO.out;have h2:=Y.out;exact⟨by simp,by simp only[HCL.out];omega,h1.1,h2.1,h2.2⟩
   case measure=>simp[intOf]
theorem ak{done:Array Bool}{i j:Nat}(h:done.getD j false=true):(done.setIfInBounds i true).getD j false=true:=by
 by_cases e:i=j
 ·subst e;refine fi ?_;unfold Array.getD at h;split at h
  ·assumption
  cases h
 simp only[Array.getD_eq_getD_getElem?,Array.getElem?_setIfInBounds] at h ⊢;rw[if_neg e];exact h
structure OSt(b n:Nat)(w w1 w2:World)(ts:List CT)(g c:Nat)(ms:List Lmt)(am:Option Addr)(cm:Nat)(W:World):Prop where
 own:W.ownsRow w1.heap.size 130 5 (.slice (some ⟨g,0,none⟩) ts.length c) ts.length (ts.flatMap iE)
 rows:dF w1.heap.size W ts
 lims:W.ownsRow w2.heap.size 155 3 (.slice am ms.length cm) ms.length (ms.flatMap xG)
 tp:Tp W b n
 gw:Gr w W
section
variable {b n:Nat} {w w1 w2 W W':World} {ts:List CT} {g c:Nat} {ms:List Lmt} {am:Option Addr} {cm:Nat}
end
theorem F8(l:List Clk)(m:List Lmt)(al am:Option Addr)(cl cm:Nat)(w:World)(h:ag 5 cY w al l)(hm:ag 3 lQ w am m)(fl:Fit l.length)(fm:Fit m.length):
  Calls Tryz.prog 93 #[.slice al l.length cl,.slice am m.length cm] w (aN w (.bool (decide (fC l m)))):=by
 have RC:=aa (j4 l al cl w h fl);have HM:=aa hm;obtain⟨P,hP⟩:∃P:Prop,P=fC l m:=⟨_,rfl⟩;rw[<-hP];have HP:=aa hP;unfold Fit at fl fm;clear h hm hP;by_cases hc:bA l=0
 ·rw[hc] at RC;have HC:=aa hc;clear hc;by_cases Eg:m.length<=32
  ·have rq:decide ((32:Int)<m.length)=false:=dfx (by omega);have hmb2:decide (32<m.length)=false:=dfx (by omega);go_enter Tryz.func93,Tryz.ntmps93;go_wp2_with fail;refine RC.out.mono ?_;rintro e w1 ⟨rfl,bD⟩;have G1:=aa bD;clear bD RC;go_wp2_with fail;go_loopw [17] (fun i wr=>∃k:Nat,k<=m.length/\i= .int .i64 k/\Gr w wr/\Hid (∀j (hj:j<m.length),j<k->lF l m[j])) (fun i _=>m.length-(intOf i).toNat);case atStart=>exact⟨0,Nat.zero_le _,rfl,G1.out,aa (fun j _ h=>by omega)⟩
   case round=>
    obtain⟨k,hk,rfl,hg,Ee⟩:=hrel;have HG:=aa hg;clear hg;obtain⟨wo,rfl⟩:∃wo:World,wo=wr:=⟨_,rfl⟩;by_cases aA:k<m.length
    ·obtain⟨b,o,rfl,⟨c0,_⟩,⟨c1,_⟩,⟨c2,_⟩⟩:=iR HM.out HG.out k aA;have hn:Hid (¬lF l m[k]->¬P):=aa (fun hb hp=>hb ((HP.out▸hp:fC l m).2.2 k aA));by_cases q0:m[k].clock<0
     ·have e1:decide (m[k].clock<0)=true:=dtx q0;have H1:Hid (¬P):=aa (hn.out (fun h=>by have:=h.1;omega));clear q0;go_wp2_with fail;go_ret;exact⟨by rw[dfx H1.out];rfl,HG.out.alloc _⟩
     have e1:decide (m[k].clock<0)=false:=dfx q0;by_cases q1:(l.length:Int)<=m[k].clock
     ·have e2:decide ((l.length:Int)<=m[k].clock)=true:=dtx q1;have H1:Hid (¬P):=aa (hn.out (fun h=>by have:=h.2.1;omega));clear q0 q1;go_wp2_with fail;go_ret;exact⟨by rw[dfx H1.out];rfl,HG.out.alloc _⟩
     have e2:decide ((l.length:Int)<=m[k].clock)=false:=dfx q1;by_cases q2:m[k].low<0
     ·have e3:decide (m[k].low<0)=true:=dtx q2;have H1:Hid (¬P):=aa (hn.out (fun h=>by have:=h.2.2.1;omega));clear q0 q1 q2;go_wp2_with fail;go_ret;exact⟨by rw[dfx H1.out];rfl,HG.out.alloc _⟩
     have e3:decide (m[k].low<0)=false:=dfx q2;by_cases q3:m[k].high<m[k].low
     ·have e4:decide (m[k].high<m[k].low)=true:=dtx q3;have H1:Hid (¬P):=aa (hn.out (fun h=>by have:=h.2.2.2.1;omega));clear q0 q1 q2 q3;go_wp2_with fail;go_ret;exact⟨by rw[dfx H1.out];rfl,HG.out.alloc _⟩
     have e4:decide (m[k].high<m[k].low)=false:=dfx q3;by_cases q4:4000000000<m[k].high
     ·have e5:decide (4000000000<m[k].high)=true:=dtx q4;have H1:Hid (¬P):=aa (hn.out (fun h=>by have:=h.2.2.2.2;omega));clear q0 q1 q2 q3 q4;go_wp2_with fail;go_ret;exact⟨by rw[dfx H1.out];rfl,HG.out.alloc _⟩
     have e5:decide (4000000000<m[k].high)=false:=dfx q4;have OK:Hid (lF l m[k]):=aa ⟨by omega,by omega,by omega,by omega,by omega⟩;clear q0 q1 q2 q3 q4;go_wp2_with fail;go_roundw;case rel=>
      refine⟨k+1,by omega,by go_num,HG.out.alloc _,aa (fun j hj h=>?_)⟩;by_cases e:j=k
      ·subst e;exact OK.out
      exact Ee.out j hj (by omega)
     case measure=>simp[intOf];omega
    go_wp2_with fail;go_ret;refine⟨?_,HG.out⟩;have hp:P:=(by rw[HP.out];exact⟨HC.out,Eg,fun j hj=>Ee.out j hj (by omega)⟩);rw[dtx hp];rfl
  have rq:decide ((32:Int)<m.length)=true:=dtx (by omega);have hmb2:decide (32<m.length)=true:=dtx (by omega);have H1:Hid (¬P):=aa (fun hp=>Eg (HP.out▸hp:fC l m).2.1);clear Eg;go_enter Tryz.func93,Tryz.ntmps93;go_wp2_with fail;refine RC.out.mono ?_;rintro e w1 ⟨rfl,bD⟩;go_wp2_with fail;go_ret;exact⟨by rw[dfx H1.out];rfl,bD⟩
 have H1:Hid (¬P):=aa (fun hp=>hc (HP.out▸hp:fC l m).1);have hb:(bA l !=0)=true:=by simp[hc]
 go_enter Tryz.func93,Tryz.ntmps93;go_wp2_with fail;refine RC.out.mono ?_;rintro e w1 ⟨rfl,bD⟩;go_wp2_with fail;go_ret;exact⟨by rw[dfx H1.out];rfl,bD⟩
theorem rW(l:List Clk)(s:List Int)(al aS:Option Addr)(cl cs:Nat)(w:World)(h:ag 5 cY w al l)(hs:ag 1 RI w aS s)(fl:Fit l.length)(fs:Fit s.length):
  Calls Tryz.prog 91 #[.slice al l.length cl,.slice aS s.length cs] w (aN w (.bool (decide (bA l=0/\aI l s)))):=by
 have RC:=aa (j4 l al cl w h fl);by_cases hc:bA l=0
 ·by_cases mI:s.length=l.length
  ·obtain⟨P,hP⟩:∃P:Prop,P=(bA l=0/\aI l s):=⟨_,rfl⟩;rw[show decide (bA l=0/\aI l s)=decide P from by rw[decide_eq_decide,hP]];have HP:=aa hP;rw[hc] at RC;have H:=aa h;have HS:=aa hs;have NB:=aa (bm hc).1;have HL:=aa mI;have HC:=aa hc;rw[mI];have hl16:=cg (bm hc).1;clear h hs hc mI hP;go_enter Tryz.func91,Tryz.ntmps91;go_wp2_with fail;refine RC.out.mono ?_;rintro e w1 ⟨rfl,bD⟩;have G1:=aa bD;clear bD RC;go_wp2_with fail;go_loopw [19] (fun i wr=>∃k:Nat,k<=l.length/\i= .int .i64 k/\Gr w wr/\Hid (∀j (h:j<l.length) (h':j<s.length),j<k->0<=s[j]/\s[j]<l[j].choices.length)) (fun i _=>l.length-(intOf i).toNat);case atStart=>exact⟨0,Nat.zero_le _,rfl,G1.out,aa (fun j _ _ h=>by omega)⟩
   case round=>
    obtain⟨k,hk,rfl,hg,Ee⟩:=hrel;have HG:=aa hg;clear hg;obtain⟨wo,rfl⟩:∃wo:World,wo=wr:=⟨_,rfl⟩;by_cases aA:k<l.length
    ·have kJ:k<s.length:=(by have:=HL.out;omega);have hn:Hid (¬(0<=s[k]/\s[k]<l[k].choices.length)->¬P):=aa (fun hb hp=>hb ((HP.out▸hp:bA l=0/\aI l s).2.2 k aA kJ));obtain⟨fp,fc⟩:=fR NB.out aA;obtain⟨b,o,rfl,⟨d0,_⟩,⟨ap,cp,d1,_⟩,⟨ac,cc,d2,_,d2f,_⟩,⟨d3,_⟩,⟨d4,_⟩⟩:=bj H.out HG.out k aA;obtain⟨bs,os,rfl,⟨q1,_⟩⟩:=(HS.out.giI HG.out).one k kJ;have jm:=ae q1;have k2:(k:Int)<l.length:=(by omega);unfold Fit at d2f;by_cases t0:s[k]<0
     ·have e1:decide (s[k]<0)=true:=dtx t0;have H1:Hid (¬P):=aa (hn.out (fun h=>by omega));clear t0;go_wp2_with fail;refine ar (by kernel_rfl) (by kernel_rfl) ?_;repeat(go_big_quiet_step (fail))
      refine wpQuiet_nil ?_;rintro _ ⟨⟨O,d⟩,rfl⟩;go_wp2_with fail;go_ret;exact⟨by rw[dfx H1.out];rfl,(HG.out.alloc _).xt _ _⟩
     have e1:decide (s[k]<0)=false:=dfx t0;by_cases t1:(l[k].choices.length:Int)<=s[k]
     ·have e2:decide ((l[k].choices.length:Int)<=s[k])=true:=dtx t1;have H1:Hid (¬P):=aa (hn.out (fun h=>by omega));clear t0 t1;go_wp2_with fail;refine ar (by kernel_rfl) (by kernel_rfl) ?_;repeat(go_big_quiet_step (fail))
      refine wpQuiet_nil ?_;rintro _ ⟨⟨O,d⟩,rfl⟩;go_wp2_with fail;go_ret;exact⟨by rw[dfx H1.out];rfl,(HG.out.alloc _).xt _ _⟩
     have e2:decide ((l[k].choices.length:Int)<=s[k])=false:=dfx t1;have ok:Hid (0<=s[k]/\s[k]<l[k].choices.length):=aa (by omega);clear t0 t1;go_wp2_with fail;refine ar (by kernel_rfl) (by kernel_rfl) ?_;repeat(go_big_quiet_step (fail))
     refine wpQuiet_nil ?_;rintro _ ⟨⟨O,d⟩,rfl⟩;go_wp2_with fail;go_roundw;case rel=>
      refine⟨k+1,by omega,by go_num,(HG.out.alloc _).xt _ _,aa (fun j h1 h2 h3=>?_)⟩;by_cases hj:j=k
      ·subst hj;exact ok.out
      exact Ee.out j h1 h2 (by omega)
     case measure=>simp[intOf];omega
    have H1:Hid P:=aa (HP.out.symm▸⟨HC.out,HL.out,fun j h1 h2=>Ee.out j h1 h2 (by omega)⟩);go_wp2_with fail;go_ret;exact⟨by rw[dtx H1.out];rfl,HG.out⟩
  have hd:decide (bA l=0/\aI l s)=false:=dfx (fun h=>mI h.2.1);rw[hd];rw[hc] at RC;have hb:((s.length:Int) !=(l.length:Int))=true:=by simp;omega
  have px:(s.length !=l.length)=true:=by simp[mI]
  have hb3:((s.length:Int)==(l.length:Int))=false:=by simp;omega
  unfold Fit at fl fs;clear h hs hc hd;go_enter Tryz.func91,Tryz.ntmps91;go_wp2_with fail;refine RC.out.mono ?_;rintro e w1 ⟨rfl,bD⟩;have G1:=aa bD;clear bD RC;go_wp2_with fail;go_ret;exact⟨rfl,G1.out⟩
 have hd:decide (bA l=0/\aI l s)=false:=dfx (fun h=>hc h.1);rw[hd];obtain⟨B,hB⟩:∃B,bA l=B:=⟨_,rfl⟩;rw[hB] at RC hc;have hb:(B !=0)=true:=by simp[hc]
 unfold Fit at fl fs;clear h hs hd hB;go_enter Tryz.func91,Tryz.ntmps91;go_wp2_with fail;refine RC.out.mono ?_;rintro e w1 ⟨rfl,bD⟩;have G1:=aa bD;clear bD RC;go_wp2_with fail;go_ret;exact⟨rfl,G1.out⟩
structure qO(w:World)(l:List Clk)(ms:List Lmt)(f t:List Int)(al am af at':Option Addr):Prop where
 clks:ag 5 cY w al l
 fl:Fit l.length
 lmts:ag 3 lQ w am ms
 fm:Fit ms.length
 sf:ag 1 RI w af f
 ff:Fit f.length
 st:ag 1 RI w at' t
 ft:Fit t.length
 off:kW w
section
variable {w w':World} {l:List Clk} {ms:List Lmt} {f t:List Int} {al am af at':Option Addr}
theorem qO.gr(h:qO w l ms f t al am af at')(hg:Gr w w'):qO w' l ms f t al am af at':=⟨bj h.clks hg,h.fl,iR h.lmts hg,h.fm,h.sf.giI hg,h.ff,h.st.giI hg,h.ft,h.off.gr hg⟩
noncomputable def Gg(l:List Clk)(ms:List Lmt)(s:List Int):Bool:=decide (fC l ms)&&(decide (bA l=0/\aI l s)&&aG l ms s)
noncomputable def ju(l:List Clk)(ms:List Lmt)(f t:List Int):Int:=if bA l=0 then(if fC l ms/\aI l f/\aI l t then(if aG l ms f=true/\aG l ms t=true then 0 else 7) else 1) else bA l
theorem sQ(h:ju l ms f t=0):fC l ms/\aI l f/\aI l t/\aG l ms f=true/\aG l ms t=true:=by
 unfold ju at h;split at h
 ·split at h
  ·rename_i q;split at h
   ·rename_i p;exact⟨q.1,q.2.1,q.2.2,p.1,p.2⟩
   cases h
  cases h
 contradiction
theorem qO.env(h:qO w l ms f t al am af at')(hl:fC l ms):Env w l ms al am:=⟨h.clks,h.lmts,h.off,hl.1,hl.2.1,hl.2.2⟩
end
theorem JY(l:List Clk)(ms:List Lmt)(s:List Int)(al aS am:Option Addr)(cl cs cm:Nat)(w:World)(h:ag 5 cY w al l)(hs:ag 1 RI w aS s)(hm:ag 3 lQ w am ms)(fl:Fit l.length)(fs:Fit s.length)(fm:Fit ms.length)(qS:kW w):
  Calls Tryz.prog 112 #[.slice al l.length cl,.slice aS s.length cs,.slice am ms.length cm] w (aN w (.bool (Gg l ms s))):=by
 have S1:=aa (fun W (hW:Gr w W)=>js l s al aS cl cs W (bj h hW) (hs.giI hW) fl fs);have S2:=aa (fun W (hW:Gr w W)=>qF l ms al am cl cm W (bj h hW) fl (iR hm hW) fm);by_cases c2:fC l ms
 ·by_cases c1:bA l=0/\aI l s
  ·have:=Nb l ms s al aS am cl cs cm w ⟨h,hm,qS,c1.1,c2.2.1,c2.2.2⟩ hs c1.2;unfold Gg;rw[dtx c1,dtx c2,Bool.true_and,Bool.true_and];exact this
  unfold Gg;rw[dfx c1,Bool.false_and,Bool.and_false];rw[dfx c1] at S1;rw[dtx c2] at S2;clear h hs hm c1 c2;go_enter Tryz.func112,Tryz.ntmps112;go_wp2_with fail;refine(S2.out _ (gfl _)).mono ?_;rintro e w1 ⟨rfl,bD⟩;have G1:=aa bD;clear bD;go_wp2_with fail;refine(S1.out _ G1.out).mono ?_;rintro e w2 ⟨rfl,bY⟩;have G2:=aa (G1.out.trans bY);clear bY;go_wp2_with fail;go_ret;exact⟨rfl,G2.out⟩
 unfold Gg;rw[dfx c2,Bool.false_and];rw[dfx c2] at S2;clear h hs hm c2 S1;go_enter Tryz.func112,Tryz.ntmps112;go_wp2_with fail;refine(S2.out _ (gfl _)).mono ?_;rintro e w1 ⟨rfl,bD⟩;have G1:=aa bD;clear bD;go_wp2_with fail;go_ret;exact⟨rfl,G1.out⟩
end
section
open Go.RowKit
section
variable {P:Program} {ops:Array Oper} {md:Region.Mode}
end
section
variable {P:Program}
end
section
variable {P:Program} {lp m:Nat}
theorem JS{o:Oper}{a:Act}{K:Act->World->Prop}{Q:Exit->Act->World->Prop}{w:World}(hd:∀c,o.op≠ .defer c)(h:o.wp P a w K Q):o.wpIn (Fence.wide.inRound lp) m P a w K Q:=by
 unfold Oper.wp at h;unfold Oper.wpIn;refine⟨fun _ _=>trivial,?_⟩;rw[Fence.inRound_round,Oper.semAt_some _ _ _ hd];generalize (execOp a.eval o).run P w=r at*;cases r with
 |ok x w'=>
  cases x<;>simp only[Oper.upon] at h<;>simp only[Oper.uponIn]
  case value u=>exact h
  case skip=>exact h
  case defer d=>exact h
  case enter f args=>exact And.intro (fun q=>by cases q) (CallsIn.inRound lp (callsIn_wide.2 h))
  case row row args=>exact And.intro (fun q=>by cases q) (fun c cs _=>(let⟨v,w',r,s⟩:=h c cs;⟨v,w',r,stepsIn_wide.2 s⟩))
 |halt x w'=>
  cases x<;>simp only[Oper.upon] at h<;>simp only[Oper.uponIn]
  case panic v=>exact h
theorem JP{F:Fence}{ops:Array Oper}{md:Region.Mode}{Q:Exit->Act->World->Prop}{Inv:Array Bool->Act->World->Prop}(td:∀done a w,Region.ready md ops done= []->Inv done a w->Q .normal a w)
  (step:∀done a w i,i∈Region.ready md ops done->Inv done a w->wpOpIn F m P ops Q i (fun a' w'=>Inv (done.setIfInBounds i true) a' w') a w) (fuel:Nat):
  ∀done a w,uR done<=fuel->Inv done a w->wpAnyIn F m P md ops Q fuel done a w:=by
 induction fuel with
 |zero=>
  intro done a w hu h;have hr:Region.ready md ops done= []:=by
   rcases hq:Region.ready md ops done with _|⟨i,t⟩
   ·rfl
   have hi:i∈Region.ready md ops done:=by rw[hq];simp
   have:=uk (mem_ready.1 hi).1;omega
  exact⟨hr,td _ _ _ hr h⟩
 |succ fuel ih=>intro done a w hu h;refine⟨fun hr=>td _ _ _ hr h,fun i hi=>?_⟩;have hc:=uk (mem_ready.1 hi).1;exact wpOpIn_mono (fun a' w' h'=>ih _ a' w' (by omega) h') (step done a w i hi h)
theorem Cf{id:Nat}{l:List Oper}{Q:Exit->Act->World->Prop}{a:Act}{w:World}(Inv:Array Bool->Act->World->Prop)(hm:P.follows .mixedOrders=true)(he:uF l 0=true)(hd:xP l=true)(h0:Inv (Array.replicate l.length false) a w.drew)
  (step:tG P l.toArray Q Inv l 0) (td:∀done a w,(∀i,i<l.length->done.getD i false=true)->Inv done a w->Q .normal a w):(Code.region id l.toArray true).wpIn (Fence.wide.inRound lp) m P Q a w:=by
 refine wpIn_region_any hm ?_;refine JP (Inv:=fun done a w=>done.size=l.length/\Inv done a w) (fun done a w hr ⟨hs,h⟩=>td done a w (Jt he hs hr) h) (fun done a w i hi ⟨hs,h⟩=>?_) _ _ _ _ (by simp[uR]) ⟨by simp,by simpa using h0⟩;obtain⟨h1,o,h2,h3⟩:=mem_ready.1 hi;refine wpOpIn_step h2 fun K hK=>?_;have q:=tG.at l 0 step i o (by simpa using h2) done a w (by simpa using hs) (by simpa using h1) (Nm h3) h K (fun a' w' q=>hK a' w' ⟨by simpa using hs,by simpa using q⟩);split
 ·rename_i hw;rw[if_pos hw] at q;exact JS (fun c=>AT hd i o c h2) q
 rename_i hw;rw[if_neg hw] at q;exact⟨fun _ _=>trivial,q⟩
end
end
section
open Go.RowKit
open Classical
def Jd(l:List Sup)(d:List Drw)(w:World)(e:Ending)(w':World):Prop:=
 ∃v,e= .returned (.tuple #[v,.int .i64 (lc l d)])/\Ay w' v (lO l d)/\Gr w w'/\Gd w v (lO l d)
theorem Ad{l:List Sup}{d:List Drw}{w w':World}{x:Int}(he:lc l d=x)(hp:lO l d=m7)(hg:Gr w w'):Jd l d w (.returned (.tuple #[.agg #[.slice none 0 0,.slice none 0 0],.int .i64 x])) w':=
 ⟨_,by rw[he],by rw[hp];exact vN _,hg,by rw[hp];exact .inl rfl⟩
theorem IC(l:List Sup)(d:List Drw)(ao a3:Option Addr)(cap c3:Nat)(w:World)(h:ag 5 bG w ao l)(hf:Fit l.length)(h3:ag 4 cX w a3 d)(f3:Fit d.length):
  Calls Tryz.prog 26 #[.slice ao l.length cap,.slice a3 d.length c3] w (Jd l d w):=by
 have H:=aa h;have H3:=aa h3;have bw:=Jh l d;clear h h3;by_cases g:beg l d=0
 ·have hd:=yK g;have hz:=cW hd.1;have Ii:l.length<=16:=by
   have:=hz.1;simp only[jI,not_or] at this;omega
  have Fj:∀k (hk:k<l.length),l[k].levels.length<=16:=fun k hk=>by
   have:=hz.1;simp only[jI,not_or] at this;rcases Nat.lt_or_ge 16 l[k].levels.length with q|q
   ·exact absurd ⟨k,hk,q⟩ this.2
   exact q
  have lH:=aa Fj;have OK:=aa hz.2;have HD:=aa hd;have Vc:=hd.2.1;have HF:=aa hf;clear hd hz Fj hf;have jV:=run_make_row' (P:=Tryz.prog) 22 3 (.int .i64 0) 8 Tryz.underlying22 eS rfl .i64 .i64 l.length (by omega) (by omega);go_enter Tryz.func26,Tryz.ntmps26;go_wp2_with fail;refine(qM l d ao a3 cap c3 _ (aX H.out ((gfl _).alloc _)) HF.out (bP H3.out ((gfl _).alloc _)) f3).mono ?_;rw[g];rintro e w' ⟨rfl,O1,d1,rfl⟩;go_wp2_with fail;refine(xF l d ao a3 cap c3 _ (aX H.out (((gfl _).alloc _).xt _ _)) Ii OK.out (bP H3.out (((gfl _).alloc _).xt _ _)) Vc).mono ?_;rintro e w' ⟨au,cu,rfl,cu1,cu2,hu,O2,d2,rfl⟩;have HU:=aa hu;have CU:=aa cu2;rw[bN] at cu1;clear hu cu2;rw[bN];go_wp2_with fail;obtain⟨W0,hW0⟩:∃W0:World,xt (w.alloc (.cells #[.slice none 0 0,.slice none 0 0] 29)) (O1++O2) d2=W0:=⟨_,rfl⟩;have hBL:w.heap.size+1+(O1.size+O2.size)=W0.heap.size:=by rw[<-hW0];simp
  have hU0:ag 1 RB W0 au (cH l d):=by rw[<-hW0];have:=HU.out;rwa [xt_xt] at this
  have hG0:Gr w W0:=by rw[<-hW0];exact((gfl _).alloc _).xt _ _
  have hR4:Row W0 w.heap.size 29 [.slice none 0 0,.slice none 0 0]:=by rw[<-hW0];exact(Row.new w #[.slice none 0 0,.slice none 0 0] 29).xt _ _
  rw[hW0,hBL];have HU0:=aa hU0;have HG0:=aa hG0;have R4:=aa hR4;have n4:w.heap.size<W0.heap.size:=hR4.has;clear hW0 hBL hU0 hG0 hR4 HU jV;obtain⟨W1,hW1⟩:∃W1:World,((W0.alloc (.cells (madeCells #[.int .i64 0] l.length) 3)).alloc (.cells #[.slice au l.length cu,.slice (some ⟨W0.heap.size,0,none⟩) l.length l.length] 29)).alloc (.cells (madeCells #[.int .i64 0] l.length) 3)=W1:=⟨_,rfl⟩;have g1:Gr W0 W1:=by rw[<-hW1];exact(((gfl _).alloc _).alloc _).alloc _
  have rL:Row W1 W0.heap.size 3 (an (List.replicate l.length 0)):=by rw[<-hW1];exact(tK W0 l.length).gr (((gfl _).alloc _).alloc _)
  have rR:Row W1 (W0.heap.size+1) 29 [.slice au l.length cu,.slice (some ⟨W0.heap.size,0,none⟩) l.length l.length]:=by rw[<-hW1];have:=Row.new (W0.alloc (.cells (madeCells #[.int .i64 0] l.length) 3)) #[.slice au l.length cu,.slice (some ⟨W0.heap.size,0,none⟩) l.length l.length] 29;simp only[World.size_alloc] at this;exact this.gr ((gfl _).alloc _)
  have rS:Row W1 (W0.heap.size+1+1) 3 (an (List.replicate l.length 0)):=by rw[<-hW1];have:=tK ((W0.alloc (.cells (madeCells #[.int .i64 0] l.length) 3)).alloc (.cells #[.slice au l.length cu,.slice (some ⟨W0.heap.size,0,none⟩) l.length l.length] 29)) l.length;simp only[World.size_alloc] at this;exact this
  have lv0:mY l (List.replicate l.length 0):=⟨by simp,fun k hk _=>by obtain⟨_,q⟩:=OK.out k hk;have:=q.1.2.2.1;simp;omega⟩
  have ls0:rZ l (List.replicate l.length 0):=⟨by simp,fun k _=>by simp⟩;rw[hW1];clear hW1;go_loopw [34] (fun i wr=>∃m:Nat,m<=d.length/\i= .int .i64 m/\Gr W0 wr/\Row wr W0.heap.size 3 (an (List.replicate l.length 0))/\Row wr (W0.heap.size+1) 29 [.slice au l.length cu,.slice (some ⟨W0.heap.size,0,none⟩) l.length l.length]/\∃ls,Row wr (W0.heap.size+1+1) 3 (an ls)/\rZ l ls/\Hid (ls=eB l.length (d.take m))) (fun i _=>d.length-(intOf i).toNat);case atStart=>exact⟨0,Nat.zero_le _,rfl,g1,rL,rR,_,rS,ls0,aa (by rw[List.take_zero,Em])⟩
  case round=>
   clear g1 rL rR rS ls0;obtain⟨m,hm,rfl,hg,rL,rR,ls,rS,kJ,EQ⟩:=hrel;have G0:=aa hg;have RL:=aa rL;have RR:=aa rR;have RS:=aa rS;have LS:=aa kJ;have GG:Hid (Gr w wr):=aa (HG0.out.trans hg);have LV0:=aa lv0;clear hg rL rR rS kJ lv0;by_cases aA:m<d.length
   ·obtain⟨b,o,rfl,⟨t0,_⟩,⟨t1,t1w,t1x⟩,⟨t2,_⟩,⟨t3,_⟩⟩:=bP H3.out GG.out m aA;have og:=HD.out.2.2 m aA;unfold fq at og;obtain⟨sn,mQ⟩:=Int.eq_ofNat_of_zero_le og.1;have HSN:=aa mQ;rw[mQ] at t0;have eX:sn<l.length:=(by omega);have lo0:0<=d[m].low:=(by omega);have lo1:d[m].low<=5000:=(by omega);clear mQ og;have zH:sn<ls.length:=(by have:=LS.out.1;omega);have lsb:=LS.out.2 sn zH;have s0:=RS.out.iat sn zH;have s1:=RS.out.free sn;have s2:=RS.out.has;have gl:(sn:Int)<l.length:=(by omega);have ls1:=lsb.1;have ls2:=lsb.2;clear lsb;go_wp2_with fail;go_region;all_goals go_wp2_with fail
    all_goals go_roundw
    case rel=>
     refine⟨m+1,by omega,by go_num,?_,?_,?_,ls.set sn (if ls[sn]<d[m].low then d[m].low else ls[sn]),?_,?_⟩
     ·repeat(first|with_reducible exact G0.out|with_reducible refine Gr.setc (by omega) ?_|with_reducible refine Gr.alloc _ ?_|with_reducible refine Gr.xt _ _ ?_|with_reducible refine Gr.drew ?_)
     ·repeat(first|with_reducible exact RL.out|with_reducible refine Row.alloc _ ?_|with_reducible refine Row.drew ?_|with_reducible refine Row.xt _ _ ?_|with_reducible refine Row.oth ?_ (by omega))
     ·repeat(first|with_reducible exact RR.out|with_reducible refine Row.alloc _ ?_|with_reducible refine Row.drew ?_|with_reducible refine Row.xt _ _ ?_|with_reducible refine Row.oth ?_ (by omega))
     ·repeat(first|with_reducible exact RS.out.iset sn _|with_reducible refine Row.alloc _ ?_|with_reducible refine Row.drew ?_|with_reducible refine Row.xt _ _ ?_|with_reducible refine Row.oth ?_ (by omega))
     exact⟨LS.out.set sn _ (by split<;>omega) (by split<;>omega),aa (by have e:=EQ.out;subst e;exact(Ct aA HSN.out zH).symm)⟩
    case measure=>simp[intOf];omega
   obtain⟨w1,rfl⟩:∃w1:World,w1=wr:=⟨_,rfl⟩;go_wp2_with fail;go_loopw [12] (fun i wr=>∃n:Nat,n<=l.length/\i= .int .i64 ((n:Int)-1)/\Gr W0 wr/\Row wr (W0.heap.size+1) 29 [.slice au l.length cu,.slice (some ⟨W0.heap.size,0,none⟩) l.length l.length]/\∃lv ls,Row wr W0.heap.size 3 (an lv)/\Row wr (W0.heap.size+1+1) 3 (an ls)/\mY l lv/\rZ l ls/\Hid (ix l d (l.length-n)=some (lv,ls))) (fun i _=>(intOf i+1).toNat);case atStart=>exact⟨l.length,Nat.le_refl _,rfl,G0.out,RR.out,_,ls,RL.out,RS.out,LV0.out,LS.out,aa (by rw[Nat.sub_self];have e:=EQ.out;rw[List.take_of_length_le (by omega)] at e;rw[e];rfl)⟩
   case round=>
    clear G0 RL RR RS LS GG LV0;obtain⟨n,hn,rfl,hg,rR,lv,ls,rL,rS,ke,kJ,GO⟩:=hrel;have G0:=aa hg;have RL:=aa rL;have RR:=aa rR;have RS:=aa rS;have LS:=aa kJ;have LV:=aa ke;have GG:Hid (Gr w wr):=aa (HG0.out.trans hg);have x1:=rR.cell 1 (by simp);have x0:=rR.cell 0 (by simp);simp only[List.getElem_cons_succ,List.getElem_cons_zero] at x0 x1;have hhR:=rR.has;have hhL:=rL.has;have hhS:=rS.has;clear hg rL rR rS kJ ke;cases n with
    |zero=>
     have e0:=(R4.out.gr G0.out).cell 0 (by simp);have e1:=(R4.out.gr G0.out).cell 1 (by simp);have e2:=(R4.out.gr G0.out).free 0;have e3:=(R4.out.gr G0.out).free 1;have e4:=(R4.out.gr G0.out).has;simp only[List.getElem_cons_succ,List.getElem_cons_zero] at e0 e1;have RK:=aa (LV.out.rls (d:=d) HD.out.1);have Cu:=LV.out.1;go_wp2_with fail;refine(AQ l ⟨cH l d,lv⟩ d _ _ _ _ _ _ _ _ _ _ _ (bN l d).symm Cu.symm (aX H.out GG.out) (HU0.out.giB G0.out) (RL.out.slI (LV.out.wide lH.out)) (bP H3.out GG.out) RK.out HD.out).mono ?_;rintro e w' ⟨rfl,O7,d7,rfl⟩;by_cases hm:my l ⟨cH l d,lv⟩ d
     ·have HM:=aa hm;rw[dtx hm];clear hm;go_wp2_with fail;refine bodyPost_ret (v:= .tuple #[.agg #[.slice au l.length cu,.slice (some ⟨W0.heap.size,0,none⟩) l.length l.length],.int .i64 0]) ?_ rfl ?_
      ·simp[results,Tryz.results26,go_sem,e0,e1,e4]
      have q1:=((HU0.out.giB G0.out).keepB (v':= .slice au l.length cu) e0 (by intro x h;cases h)).keepB (v':= .slice (some ⟨W0.heap.size,0,none⟩) l.length l.length) (a:=⟨w.heap.size,1,none⟩) (v:= .slice none 0 0) (by rw[World.cell?_setCell_other];exact e1;simp) (by intro x h;cases h);have q2:=((RL.out.slI (LV.out.wide lH.out)).keepI (v':= .slice au l.length cu) e0 (by intro k x h;cases h)).keepI (v':= .slice (some ⟨W0.heap.size,0,none⟩) l.length l.length) (a:=⟨w.heap.size,1,none⟩) (v:= .slice none 0 0) (by rw[World.cell?_setCell_other];exact e1;simp) (by intro k x h;cases h);have hR:lM l d=some ⟨cH l d,lv⟩:=by have e:=GO.out;rw[Nat.sub_zero] at e;unfold lM;rw[e];exact if_pos HM.out
      obtain⟨r1,r2⟩:=xi g hR;refine⟨_,by rw[r1],?_,(by repeat(first|with_reducible exact GG.out|with_reducible refine Gr.setc (by omega) ?_|with_reducible refine Gr.alloc _ ?_|with_reducible refine Gr.xt _ _ ?_)),?_⟩
      ·rw[r2];exact⟨au,some ⟨W0.heap.size,0,none⟩,cu,l.length,by simp only[bN,Cu],q1.giB ((gfl _).xt _ _),q2.giI ((gfl _).xt _ _),by rw[bN];exact cu1,CU.out,by show lv.length<=l.length;omega,(by have:=HF.out;unfold Fit at*;show lv.length<=_;omega)⟩
      rw[r2];exact .inr ⟨au,l.length,cu,W0.heap.size,l.length,by show _=Value.agg #[_,.slice _ lv.length _];rw[Cu],by omega⟩
     rw[dfx hm];have HM:=aa hm;clear hm;go_wp2_with fail;refine bodyPost_ret (v:= .tuple #[.agg #[.slice none 0 0,.slice none 0 0],.int .i64 9]) ?_ rfl ?_
     ·simp[results,Tryz.results26,go_sem,e0,e1,e4]
     have hR:lM l d=none:=by have e:=GO.out;rw[Nat.sub_zero] at e;unfold lM;rw[e];exact if_neg HM.out
     obtain⟨r1,r2⟩:=yA g hR;exact Ad r1 r2 (by repeat(first|with_reducible exact GG.out|with_reducible refine Gr.setc (by omega) ?_|with_reducible refine Gr.alloc _ ?_|with_reducible refine Gr.xt _ _ ?_))
    |succ i=>
     rw[show((i+1:Nat):Int)-1=(i:Int) by omega];have AN:(0:Int)<=i:=(by omega);have hib:(i:Int)<l.length:=(by omega);obtain⟨bu,ou,rfl,u1⟩:=(HU0.out.giB G0.out).one i (by rw[bN];exact hn);rw[ri] at u1;unfold RB at u1;obtain⟨b,o,rfl,sB⟩:=H.out.all (by omega);have HS:=aa (sB i hn);clear sB;obtain⟨⟨c0,c0w,zM⟩,⟨al,cl,q1,q1l,q1f,cL⟩,⟨c2,_⟩,⟨c3,_⟩,c4⟩:=bG.mono _ _ _ _ _ GG.out HS.out;unfold RB at c4;have CL:=aa cL;have mH:i<lv.length:=(by have:=LV.out.1;omega);have eX:i<ls.length:=(by have:=LS.out.1;omega);have s0:=RS.out.iat i eX;have l0:=RL.out.iat i mH;have l1:=RL.out.free i;have tv:=lH.out i hn;have Cy:=ae c0;have hh2:=ae u1;clear cL;obtain⟨uu,ua⟩:∃uu:Bool,decide (fF l d i)=uu:=⟨_,rfl⟩;rw[ua] at u1;cases uu with
     |false=>
      have HUU:=aa (of_decide_eq_false ua);clear ua;go_wp2_with fail;go_roundw;case rel=>exact⟨i,by omega,by go_num,G0.out,RR.out,lv,ls,RL.out,RS.out,LV.out,LS.out,aa ((yW hn GO.out).trans (vH HUU.out))⟩
      case measure=>simp[intOf]
     |true=>
      have HUU:=aa (of_decide_eq_true ua);clear ua;go_wp2_with fail;refine bZ 13 (by kernel_rfl) (by kernel_rfl) ?_;simp only[List.take_succ_cons,List.take_zero,List.drop_succ_cons,List.drop_zero];repeat(go_big_quiet_step ((go_at_call 87;exact bJ (Ar l[i] _ _ _ _ (CL.out.giI ((gfl _).xt _ _)) tv))))
      refine wpQuiet_nil ?_;rintro _ ⟨⟨O5,d5⟩,rfl⟩;have lw:=za l[i].levels ls[i];obtain⟨kk,t9⟩:∃kk,lvI l[i].levels ls[i]=kk:=⟨_,rfl⟩;have HKK:Hid (lvI l[i].levels ((lv,ls).2.getD i 0)=kk):=aa (by rw[<-t9];simp[List.getD_eq_getElem?_getD,eX]);rw[t9] at lw ⊢;have lw0:=lw.1;have lw1:=lw.2;clear t9 lw;have nb:b≠W0.heap.size:=(by have:b<w.heap.size:=ae HS.out.1.1;omega);have nb':b≠W0.heap.size+1+1:=(by have:b<w.heap.size:=ae HS.out.1.1;omega);by_cases kn:kk<0
      ·have e0:=(R4.out.gr G0.out).cell 0 (by simp);have e1:=(R4.out.gr G0.out).cell 1 (by simp);have e2:=(R4.out.gr G0.out).free 0;have e3:=(R4.out.gr G0.out).free 1;have e4:=(R4.out.gr G0.out).has;simp only[List.getElem_cons_succ,List.getElem_cons_zero] at e0 e1;have n4':w.heap.size≠W0.heap.size:=(by omega);go_wp2_with fail;refine bodyPost_ret (v:= .tuple #[.agg #[.slice none 0 0,.slice none 0 0],.int .i64 9]) ?_ rfl ?_
       ·simp[results,Tryz.results26,go_sem,e0,e1,e4]
       have hR:lM l d=none:=by have e:=(yW hn GO.out).trans (zX hn HUU.out (by rw[HKK.out];exact kn));unfold lM;rw[Ey e l.length (by omega)]
       obtain⟨r1,r2⟩:=yA g hR;exact Ad r1 r2 (by repeat(first|with_reducible exact GG.out|with_reducible refine Gr.setc (by omega) ?_|with_reducible refine Gr.alloc _ ?_|with_reducible refine Gr.xt _ _ ?_))
      have kn':0<=kk:=(by omega);have LV2:=aa (LV.out.set i hn kk kn' lw1);have pr:=OK.out i hn;obtain⟨_,⟨pr1,pr2,_,pr4,pr5,_,_,_⟩,_⟩:=pr;clear kn;by_cases hp:0<=l[i].parent
      ·obtain⟨p,iy⟩:=Int.eq_ofNat_of_zero_le hp;have HPP:=aa iy;rw[iy] at c0 pr2;clear iy hp c0w zM pr1;have dw:p<ls.length:=(by omega);have hpi:p≠i:=(by omega);have p0:=RS.out.iat p dw;have p1:=RS.out.free p;have lp:=LS.out.2 p dw;have gp:(p:Int)<l.length:=(by omega);have vw:=qY (LV2.out.rls (d:=d) HD.out.1) i hn;have SL2:=aa ((RL.out.iset i kk).slI (LV2.out.wide lH.out));go_wp2_with fail;refine mw 18 (by kernel_rfl) (by kernel_rfl) ?_;simp only[List.take_succ_cons,List.take_zero,List.drop_succ_cons,List.drop_zero];repeat(go_big_quiet_step ((go_at_call 24;exact bJ (Cw l ⟨cH l d,lv.set i kk⟩ _ _ _ _ _ _ _ _ _ _ (bN l d).symm LV2.out.1.symm (aX H.out (by repeat(first|with_reducible exact GG.out|with_reducible refine Gr.setc (by omega) ?_|with_reducible refine Gr.alloc _ ?_|with_reducible refine Gr.xt _ _ ?_))) Ii (SL2.out.giI ((gfl _).xt _ _)) (LV2.out.rls HD.out.1) (by omega)))))
       refine wpQuiet_nil ?_;rintro _ ⟨⟨O6,d6⟩,rfl⟩;go_wp2_with fail;go_roundw;case rel=>exact⟨i,by omega,by go_num,(by repeat(first|with_reducible exact G0.out|with_reducible refine Gr.setc (by omega) ?_|with_reducible refine Gr.alloc _ ?_|with_reducible refine Gr.xt _ _ ?_)),(by repeat(first|with_reducible exact RR.out|with_reducible refine Row.alloc _ ?_|with_reducible refine Row.drew ?_|with_reducible refine Row.xt _ _ ?_|with_reducible refine Row.oth ?_ (by omega))),lv.set i kk,ls.set p (if ls[p]<vlt l ⟨cH l d,lv.set i kk⟩ i+l[i].dropout then vlt l ⟨cH l d,lv.set i kk⟩ i+l[i].dropout else ls[p]),(by repeat(first|with_reducible exact RL.out.iset i kk|with_reducible refine Row.alloc _ ?_|with_reducible refine Row.drew ?_|with_reducible refine Row.xt _ _ ?_|with_reducible refine Row.oth ?_ (by omega))),(by repeat(first|with_reducible exact RS.out|with_reducible refine Row.iset ?_ _ _|with_reducible refine Row.alloc _ ?_|with_reducible refine Row.drew ?_|with_reducible refine Row.xt _ _ ?_|with_reducible refine Row.oth ?_ (by omega))),LV2.out,LS.out.set p _ (by split<;>omega) (by split<;>omega),aa ((yW hn GO.out).trans (uy hn HUU.out HKK.out kn' HPP.out dw (by unfold vlt;rw[dif_pos (show i<l.length from hn)];simp[List.getD_eq_getElem?_getD,mH])))⟩
       case measure=>simp[intOf]
      have zD:l[i].parent<0:=(by omega);have HP':=aa zD;clear hp;go_wp2_with fail;go_roundw;case rel=>exact⟨i,by omega,by go_num,(by repeat(first|with_reducible exact G0.out|with_reducible refine Gr.setc (by omega) ?_|with_reducible refine Gr.alloc _ ?_|with_reducible refine Gr.xt _ _ ?_)),(by repeat(first|with_reducible exact RR.out|with_reducible refine Row.alloc _ ?_|with_reducible refine Row.drew ?_|with_reducible refine Row.xt _ _ ?_|with_reducible refine Row.oth ?_ (by omega))),lv.set i kk,ls,(by repeat(first|with_reducible exact RL.out.iset i kk|with_reducible refine Row.alloc _ ?_|with_reducible refine Row.drew ?_|with_reducible refine Row.xt _ _ ?_|with_reducible refine Row.oth ?_ (by omega))),(by repeat(first|with_reducible exact RS.out|with_reducible refine Row.alloc _ ?_|with_reducible refine Row.drew ?_|with_reducible refine Row.xt _ _ ?_|with_reducible refine Row.oth ?_ (by omega))),LV2.out,LS.out,aa ((yW hn GO.out).trans (rI hn HUU.out HKK.out kn' HP'.out))⟩
      case measure=>simp[intOf]
 have gb:(beg l d !=0)=true:=by simp[g]
 have G:=aa g;clear g;go_enter Tryz.func26,Tryz.ntmps26;go_wp2_with fail;refine(qM l d ao a3 cap c3 _ (aX H.out ((gfl _).alloc _)) hf (bP H3.out ((gfl _).alloc _)) f3).mono ?_;rintro e w' ⟨rfl,O1,d1,rfl⟩;go_wp2_with fail;refine bodyPost_ret (v:= .tuple #[.agg #[.slice none 0 0,.slice none 0 0],.int .i64 (beg l d)]) ?_ rfl ?_
 ·simp[results,Tryz.results26,go_sem]
 exact Ad (by unfold lc;rw[if_neg G.out]) (by unfold lO;rw[if_neg G.out]) grr
noncomputable def dS(l:List Clk)(cal:List Int->Bool)(t:List Int):List Int->Option Int:=ba (aW (nbS l cal) t (bF l))
theorem IR{l:List Clk}{cal:List Int->Bool}{t:List Int}(hs:aI l t)(hc:cal t=true):jc l cal t (dS l cal t):=yS hs hc _ (mP hs hc _)
theorem GJ{l:List Clk}{cal:List Int->Bool}{t:List Int}{D:List Int->Option Int}(h:jc l cal t D)(hs:aI l t)(hc:cal t=true):D=dS l cal t:=h.dist.unique _ (IR hs hc).dist
theorem Iz{l:List Clk}{cal:List Int->Bool}{src:List Int}(hs:aI l src)(hc:cal src=true):∀p,∀q∈aW (nbS l cal) src p,q.2<((aW (nbS l cal) src p).length:Int):=by
 intro p;induction p with
 |zero=>
  intro q hq;have:q=(src,0):=by simpa [aW] using hq
  subst this;simp[aW]
 |succ p ih=>
  simp only[aW,qu];split
  ·exact ih
  rename_i x hx;have ly:=ih x (List.mem_of_getElem? hx);have key:∀(ts:List Nbr) (V:List (List Int×Int)),x.2<(V.length:Int)->(∀q∈V,q.2<(V.length:Int))->∀q∈ts.foldl (jj x.2) V,q.2<((ts.foldl (jj x.2) V).length:Int):=by
   intro ts;induction ts with
   |nil=>intro V _ h;exact h
   |cons t ts ih2=>
    intro V xY h;rw[List.foldl_cons];by_cases e:(ba V t.2.2).isSome
    ·have:jj x.2 V t=V:=(by unfold jj;rw[if_pos e]);rw[this];exact ih2 V xY h
    have:jj x.2 V t=V++ [(t.2.2,x.2+1)]:=(by unfold jj;rw[if_neg e]);rw[this];refine ih2 _ (by simp;omega) (fun q hq=>?_);rcases List.mem_append.1 hq with hq|hq
    ·have:=h q hq;simp;omega
    have:q=(t.2.2,x.2+1):=(by simpa using hq);subst this;simp;omega
  exact key _ _ ly ih
def lastN(l:List Clk)(cs:List (List Int)):Nat->Int
 |0=> -1
 |k+1=>num l (cs.getD k [])
def risTo(l:List Clk)(cal:List Int->Bool)(cs:List (List Int)):Nat->Prop
 |0=>True
 |k+1=>risTo l cal cs k/\cal (cs.getD k [])=true/\lastN l cs k<num l (cs.getD k [])
def Sq(l:List Clk)(cs:List (List Int)):Prop:=∀s∈cs,aI l s
section
variable {l:List Clk} {cal:List Int->Bool} {cs:List (List Int)} {f t:List Int}
end
def dA(l:List Clk)(n:Nat)(V:List (List Int×Int)):List Int:=(List.range n).map fun(i:Nat)=>(ba (V.map fun q=>(num l q.1,q.2)) (i:Int)).getD (-1)
section
variable {l:List Clk} {cal:List Int->Bool} {V:List (List Int×Int)}
def vJ(l:List Clk)(V:List (List Int×Int)):Prop:=∀q∈V,aI l q.1
theorem xR(n:Nat):(dA l n V).length=n:=by simp[dA]
theorem WG(n:Nat):dA l n []=List.replicate n (-1):=by
 apply List.ext_getElem
 ·simp[dA]
 intro i h1 h2;simp[dA,ba]
theorem NW(hk:vJ l V){s:List Int}(hs:aI l s):ba (V.map fun q=>(num l q.1,q.2)) (num l s)=ba V s:=
 LZ (num l) V s fun q hq e=>Cc (hk q hq) hs e
theorem Ek(hk:vJ l V){s:List Int}(hs:aI l s){m n:Nat}(hm:num l s=(m:Int))(h:m<(dA l n V).length):(dA l n V)[m]=(ba V s).getD (-1):=by simp only[dA,List.getElem_map,List.getElem_range];rw[<-hm,NW hk hs]
theorem NI(hk:vJ l V){s:List Int}(hs:aI l s){m n:Nat}(hm:num l s=(m:Int)){d:Int}(hv:ba V s=none):(dA l n V).set m d=dA l n (V++ [(s,d)]):=by
 apply List.ext_getElem
 ·simp[dA]
 intro i h1 h2;have hi:i<n:=by simpa [dA] using h2
 rw[List.getElem_set];simp only[dA,List.getElem_map,List.getElem_range,List.map_append,List.map_cons,List.map_nil];rw[wW];split
 ·rename_i e;subst e;rw[<-hm,NW hk hs,hv];simp
 rename_i e;split
 ·rfl
 rename_i q;rw[if_neg (by rw[hm];omega)];cases hx:ba (V.map fun q=>(num l q.1,q.2)) (i:Int) with
 |none=>rfl
 |some _=>rw[hx] at q;simp at q
def vis(l:List Clk)(cal:List Int->Bool)(h:List Int)(d:Int)(V:List (List Int×Int))(u v:Nat):List (List Int×Int):=(l8 l cal h u++fa cal h u v).foldl (jj d) V
theorem UG(h:List Int)(d:Int):vis l cal h d V 0 0=V:=by simp[vis,l8,fa]
theorem VM(h:List Int)(d:Int)(u:Nat):vis l cal h d V u (kOf l u).toNat=vis l cal h d V (u+1) 0:=by unfold vis;rw[oK];simp[fa]
theorem Wx(h:List Int)(d:Int):vis l cal h d V l.length 0=(nbS l cal h).foldl (jj d) V:=by unfold vis nbS;simp[fa]
theorem UW{h:List Int}{d:Int}{u v:Nat}(hu:u<h.length)(hh:(ba (vis l cal h d V u v) h).isSome=true):
  vis l cal h d V u (v+1)=if ba (vis l cal h d V u v) (h.set u (v:Int))=none/\cal (h.set u (v:Int))=true then vis l cal h d V u v++ [(h.set u (v:Int),d+1)] else vis l cal h d V u v:=by
 have e:vis l cal h d V u (v+1)=(jZ cal h u v).toList.foldl (jj d) (vis l cal h d V u v):=by unfold vis;rw[qj,<-List.append_assoc,List.foldl_append]
 rw[e];unfold jZ;split
 ·rename_i q;simp only[Option.toList,List.foldl_cons,List.foldl_nil,jj];split
  ·rename_i p;rw[if_neg];rintro⟨r,_⟩;rw[r] at p;cases p
  rename_i p;rw[if_pos];refine⟨?_,q.2⟩;cases hx:ba (vis l cal h d V u v) (h.set u (v:Int)) with
  |none=>rfl
  |some _=>rw[hx] at p;simp at p
 rename_i q;simp only[Option.toList,List.foldl_nil];rw[if_neg];rintro⟨r,c⟩;apply q;refine⟨fun ev=>?_,c⟩;have:h.set u (v:Int)=h:=by rw[ev,lZ hu];exact List.set_getElem_self hu
 rw[this] at r;rw[r] at hh;cases hh
theorem Uu{W E:List (List Int×Int)}{k:List Int}(h:(ba W k).isSome=true):ba (W++E) k=ba W k:=by
 induction W with
 |nil=>simp[ba] at h
 |cons q W ih=>
  rw[List.cons_append,j7,j7];split
  ·rfl
  rename_i bS;rw[j7,if_neg bS] at h;exact ih h
theorem Nh(h:List Int)(d:Int)(u v:Nat):∃E,vis l cal h d V u v=V++E:=by obtain⟨E,e,_⟩:=EU d (l8 l cal h u++fa cal h u v) V;exact⟨E,e⟩
theorem Qa(d:Int)(ts:List Nbr)(V:List (List Int×Int)):∃E,ts.foldl (jj d) V=V++E:=by obtain⟨E,e,_⟩:=EU d ts V;exact⟨E,e⟩
theorem Iv(h:List Int){u v:Nat}(hu:u<l.length)(hv:(v:Int)<=kOf l u):∃R,nbS l cal h=(l8 l cal h u++fa cal h u v)++R:=by
 have h1:∀k,∃R,l8 l cal h (u+k)=l8 l cal h u++R:=by
  intro k;induction k with
  |zero=>exact⟨[],by simp⟩
  |succ k ih=>obtain⟨R,e⟩:=ih;exact⟨R++fa cal h (u+k) (kOf l (u+k)).toNat,by rw[<-Nat.add_assoc,oK,e,List.append_assoc]⟩
 have h2:∀k,∃R,fa cal h u (v+k)=fa cal h u v++R:=by
  intro k;induction k with
  |zero=>exact⟨[],by simp⟩
  |succ k ih=>obtain⟨R,e⟩:=ih;exact⟨R++(jZ cal h u (v+k)).toList,by rw[<-Nat.add_assoc,qj,e,List.append_assoc]⟩
 obtain⟨R2,e2⟩:=h2 ((kOf l u).toNat-v);rw[show v+((kOf l u).toNat-v)=(kOf l u).toNat by omega] at e2;have e3:=oK l cal h u;rw[e2] at e3;obtain⟨R1,e1⟩:∃R,l8 l cal h l.length=l8 l cal h (u+1)++R:=by
  have h1':∀k,∃R,l8 l cal h (u+1+k)=l8 l cal h (u+1)++R:=by
   intro k;induction k with
   |zero=>exact⟨[],by simp⟩
   |succ k ih=>obtain⟨R,e⟩:=ih;exact⟨R++fa cal h (u+1+k) (kOf l (u+1+k)).toNat,by rw[<-Nat.add_assoc,oK,e,List.append_assoc]⟩
  have:=h1' (l.length-(u+1));rwa [show u+1+(l.length-(u+1))=l.length by omega] at this
 exact⟨R2++R1,by unfold nbS;rw[e1,e3];simp[List.append_assoc]⟩
theorem Si{src:List Int}{p:Nat}{h:List Int}{d:Int}(hp:(aW (nbS l cal) src p)[p]?=some (h,d)){u v:Nat}(hu:u<l.length)(hv:(v:Int)<=kOf l u):∃E,aW (nbS l cal) src (p+1)=vis l cal h d (aW (nbS l cal) src p) u v++E:=by
 obtain⟨R,e⟩:=Iv (cal:=cal) h hu hv;have:aW (nbS l cal) src (p+1)=(nbS l cal h).foldl (jj d) (aW (nbS l cal) src p):=by show qu (nbS l cal) (aW (nbS l cal) src p) p=_;unfold qu;rw[hp]
 rw[this,e,List.foldl_append];exact Qa d R _
theorem Ho(src:List Int):∀p,∀q∈aW (nbS l cal) src p,0<=q.2/\q.2<=(p:Int):=by
 intro p;induction p with
 |zero=>
  intro q hq;have:q=(src,0):=by simpa [aW] using hq
  subst this;simp
 |succ p ih=>
  intro q hq;rw[show aW (nbS l cal) src (p+1)=qu (nbS l cal) (aW (nbS l cal) src p) p from rfl] at hq;unfold qu at hq;split at hq
  ·have:=ih q hq;omega
  rename_i x hx;obtain⟨E,e,h2,_⟩:=EU x.2 (nbS l cal x.1) (aW (nbS l cal) src p);rw[e] at hq;have hxm:=ih x (List.mem_of_getElem? hx);rcases List.mem_append.1 hq with hq|hq
  ·have:=ih q hq;omega
  have:=(h2 q hq).1;omega
end
end
end Go.Proofs.YtlmhkjdkcoiioaaGreatDoor
