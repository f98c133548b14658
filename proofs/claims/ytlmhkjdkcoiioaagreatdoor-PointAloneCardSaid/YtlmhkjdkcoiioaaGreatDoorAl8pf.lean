/- Lemmas and contracts for the proof of PointAlone (several texts in one, printed by wip/tools/pack.py): Ki Kj. -/
import Derived.Test.YtlmhkjdkcoiioaaGreatDoorAl8pe
import Derived.Test.YtlmhkjdkcoiioaaGreatDoorAl8pd
import Derived.Test.YtlmhkjdkcoiioaaGreatDoorAl8pc
set_option maxRecDepth 100000
set_option maxHeartbeats 16000000
set_option linter.unusedVariables false
set_option linter.unusedSimpArgs false
namespace Go.Proofs.YtlmhkjdkcoiioaaGreatDoor
section
open Go.RowKit
open Classical
theorem Ra{l:List Clk}{s:List Int}{k:Nat}(hk:k<l.length)(jP:k<s.length)(h:¬(0<=s[k]/\s[k]<=(l[k].choices.length:Int)-1)):¬aI l s:=fun⟨_,q⟩=>by have:=q k hk jP;exact h ⟨this.1,by omega⟩
theorem K7(l:List Clk)(s:List Int)(al aS:Option Addr)(cl cs:Nat)(w:World)(h:ag 5 cY w al l)(hs:ag 1 RI w aS s)(hf:Fit l.length)(fs:Fit s.length):
  Calls Tryz.prog 137 #[.slice al l.length cl,.slice aS s.length cs] w fun e w'=>e= .returned (.bool (decide (aI l s)))/\w=w':=by
 unfold Fit at hf fs;have H:=aa h;have HS:=aa hs;clear h hs;by_cases hl:s.length=l.length
 ·have hlb:((s.length:Int) !=(l.length:Int))=false:=by simp[hl]
  have HL:=aa hl;clear hl;go_enter Tryz.func137,Tryz.ntmps137;go_wp2;go_loop [14] (fun i=>∃k:Nat,k<=s.length/\i= .int .i64 k/\(∀j (h:j<l.length) (h':j<s.length),j<k->0<=s[j]/\s[j]<l[j].choices.length)) (fun i=>s.length-(intOf i).toNat);case atStart=>exact⟨0,Nat.zero_le _,rfl,fun j _ _ h=>absurd h (by omega)⟩
  case round=>
   obtain⟨k,hk,rfl,aH⟩:=hrel;have HA:=aa aH;clear aH;by_cases aA:k<s.length
   ·have fj:k<l.length:=(by have:=HL.out;omega);obtain⟨bs,os,rfl,⟨q1,_⟩⟩:=HS.out.one k aA;obtain⟨b,o,rfl,⟨c0,_⟩,⟨ap,cp,c1,c1l,jQ,sp⟩,⟨ac,cc,c2,c2l,mB,sc⟩,⟨c4,_⟩,c5,_⟩:=H.out k fj;unfold Fit at mB;clear sp sc jQ c0 c1 c4 c5;go_wp2_with fail;refine(aY _ _ _ _).mono ?_;rintro e w' ⟨rfl,rfl⟩;by_cases he:0<=s[k]/\s[k]<=(l[k].choices.length:Int)-1
    ·rw[dtx he];have HE:=aa he;clear he;go_wp2_with fail;go_round;case rel=>
      refine⟨k+1,by omega,by go_num,fun j h1 h2 hj=>?_⟩;by_cases e:j=k
      ·subst e;have:=HE.out;exact⟨this.1,by omega⟩
      exact HA.out j h1 h2 (by omega)
     case measure=>simp[intOf];omega
    rw[dfx he];have HE:=aa (Ra fj aA he);clear he;go_wp2_with fail;go_ret;exact⟨ai (dfx HE.out).symm,rfl⟩
   go_wp2;go_ret;exact⟨ai (dtx (show aI l s from⟨HL.out,fun j h1 h2=>HA.out j h1 h2 (by omega)⟩)).symm,rfl⟩
 have hlb:((s.length:Int) !=(l.length:Int))=true:=by simp;omega
 go_enter Tryz.func137,Tryz.ntmps137;go_wp2;go_ret;exact⟨ai (dfx (fun q:aI l s=>hl q.1)).symm,rfl⟩
theorem js(l:List Clk)(s:List Int)(al aS:Option Addr)(cl cs:Nat)(w:World)(h:ag 5 cY w al l)(hs:ag 1 RI w aS s)(hf:Fit l.length)(fs:Fit s.length):
  Calls Tryz.prog 72 #[.slice al l.length cl,.slice aS s.length cs] w (aN w (.bool (decide (bA l=0/\aI l s)))):=by
 have H:=aa h;have HS:=aa hs;have HF:=aa hf;have FS:=aa fs;clear h hs hf fs;obtain⟨x,hx⟩:∃x,bA l=x:=⟨_,rfl⟩;have HX:=aa hx;have rc:=fun W (hW:Gr w W)=>j4;clear rc;have PC:=ni l al cl w H.out HF.out;rw[hx] at PC;rw[hx];have PC':=aa PC;clear PC hx;by_cases h0:x=0
 ·subst h0;go_enter Tryz.func72,Tryz.ntmps72;go_wp2_with fail;refine PC'.out.mono ?_;rintro e w' ⟨rfl,O,d,rfl⟩;go_wp2_with fail;refine(K7 l s al aS cl cs _ (bj H.out ((gfl _).xt _ _)) (HS.out.giI ((gfl _).xt _ _)) HF.out FS.out).mono ?_;rintro e w' ⟨rfl,rfl⟩;go_wp2_with fail;go_ret;exact⟨ai (by simp),(gfl _).xt _ _⟩
 have h0b:(x==0)=false:=by simp[h0]
 go_enter Tryz.func72,Tryz.ntmps72;go_wp2_with fail;refine PC'.out.mono ?_;rintro e w' ⟨rfl,O,d,rfl⟩;go_wp2_with fail;go_ret;exact⟨ai (by simp[h0]),(gfl _).xt _ _⟩
theorem Jo(l:List Clk)(x:Lmt)(al:Option Addr)(cl B:Nat)(w:World)(c:w.cell? ⟨B,0,none⟩=some (.slice al l.length cl))(hf:Fit l.length):
  Calls Tryz.prog 157 #[.agg #[.int .i64 x.clock,.int .i64 x.low,.int .i64 x.high],.pointer (some ⟨B,0,none⟩)] w (aN w (.bool (!decide (lF l x)))):=by
 unfold Fit at hf;have ch:=ae c;by_cases h1:0<=x.clock/\x.clock<=(l.length:Int)-1
 ·have D1:=aa (dtx h1);by_cases h2:0<=x.high/\x.high<=4000000000
  ·have D2:=aa (dtx h2);by_cases h3:0<=x.low/\x.low<=x.high
   ·have D3:=aa (dtx h3);have HE:Hid (lF l x):=aa ⟨h1.1,by omega,h3.1,h3.2,h2.2⟩;clear h1 h2 h3;go_enter Tryz.func157,Tryz.ntmps157;go_wp2_with fail;refine(aY _ _ _ _).mono ?_;rintro e w' ⟨rfl,rfl⟩;rw[D1.out];go_wp2_with fail;refine(aY _ _ _ _).mono ?_;rintro e w' ⟨rfl,rfl⟩;rw[D2.out];go_wp2_with fail;refine(aY _ _ _ _).mono ?_;rintro e w' ⟨rfl,rfl⟩;rw[D3.out];go_wp2_with fail;go_ret;exact⟨ai (by rw[dtx HE.out];rfl),(gfl _).alloc _⟩
   have D3:=aa (dfx h3);have HE:Hid (¬lF l x):=aa (fun q=>h3 ⟨q.2.2.1,q.2.2.2.1⟩);clear h1 h2 h3;go_enter Tryz.func157,Tryz.ntmps157;go_wp2_with fail;refine(aY _ _ _ _).mono ?_;rintro e w' ⟨rfl,rfl⟩;rw[D1.out];go_wp2_with fail;refine(aY _ _ _ _).mono ?_;rintro e w' ⟨rfl,rfl⟩;rw[D2.out];go_wp2_with fail;refine(aY _ _ _ _).mono ?_;rintro e w' ⟨rfl,rfl⟩;rw[D3.out];go_wp2_with fail;go_ret;exact⟨ai (by rw[dfx HE.out];rfl),(gfl _).alloc _⟩
  have D2:=aa (dfx h2);have HE:Hid (¬lF l x):=aa (fun q=>h2 ⟨Int.le_trans q.2.2.1 q.2.2.2.1,q.2.2.2.2⟩);clear h1 h2;go_enter Tryz.func157,Tryz.ntmps157;go_wp2_with fail;refine(aY _ _ _ _).mono ?_;rintro e w' ⟨rfl,rfl⟩;rw[D1.out];go_wp2_with fail;refine(aY _ _ _ _).mono ?_;rintro e w' ⟨rfl,rfl⟩;rw[D2.out];go_wp2_with fail;go_ret;exact⟨ai (by rw[dfx HE.out];rfl),(gfl _).alloc _⟩
 have D1:=aa (dfx h1);have HE:Hid (¬lF l x):=aa (fun q=>h1 ⟨q.1,by have:=q.2.1;omega⟩);clear h1;go_enter Tryz.func157,Tryz.ntmps157;go_wp2_with fail;refine(aY _ _ _ _).mono ?_;rintro e w' ⟨rfl,rfl⟩;rw[D1.out];go_wp2_with fail;go_ret;exact⟨ai (by rw[dfx HE.out];rfl),(gfl _).alloc _⟩
def DA(l:List Clk)(m:List Lmt):Prop:=∃k,∃h:k<m.length,¬lF l m[k]
theorem Jv(l:List Clk)(m:List Lmt)(al am:Option Addr)(cl cm B:Nat)(w:World)(c:w.cell? ⟨B,0,none⟩=some (.slice al l.length cl))(hf:Fit l.length)(h:ag 3 lQ w am m)(hm:Fit m.length):
  Calls Tryz.prog 183 #[.slice am m.length cm,.func (.func 157) #[] #[.pointer (some ⟨B,0,none⟩)]] w fun e w'=>∃y:Int,e= .returned (.int .i64 y)/\(0<=y↔DA l m)/\Gr w w':=by
 unfold Fit at hm;have H:=aa h;have HF:=aa hf;have HC:=aa c;clear h hf c;go_enter Tryz.func183,Tryz.ntmps183;go_wp2;go_loopw [8] (fun i wr=>∃k:Nat,k<=m.length/\i= .int .i64 k/\(∀j (h:j<m.length),j<k->lF l m[j])/\Gr w wr) (fun i _=>m.length-(intOf i).toNat);case atStart=>exact⟨0,Nat.zero_le _,rfl,fun j _ h=>absurd h (by omega),gfl _⟩
 case round=>
  obtain⟨k,hk,rfl,aH,hg⟩:=hrel;have HA:=aa aH;have HG:=aa hg;clear aH hg;obtain⟨wo,rfl⟩:∃wo:World,wo=wr:=⟨_,rfl⟩;by_cases aA:k<m.length
  ·obtain⟨b,o,rfl,⟨c0,_⟩,⟨c1,_⟩,⟨c2,_⟩⟩:=iR H.out HG.out k aA;have cr:=Jo l m[k] al cl B wo (aB HG.out HC.out) HF.out;by_cases hq:lF l m[k]
   ·rw[dtx hq] at cr;have Q:=aa hq;clear hq;go_wp2_with fail;refine cr.mono ?_;rintro e w' ⟨rfl,O,d,rfl⟩;go_wp2_with fail;go_roundw;case rel=>
     refine⟨k+1,by omega,by go_num,fun j h1 hj=>?_,HG.out.xt _ _⟩;by_cases e:j=k
     ·subst e;exact Q.out
     exact HA.out j h1 (by omega)
    case measure=>simp[intOf];omega
   rw[dfx hq] at cr;have Q:=aa hq;clear hq;go_wp2_with fail;refine cr.mono ?_;rintro e w' ⟨rfl,O,d,rfl⟩;go_wp2_with fail;go_ret;exact⟨k,rfl,⟨fun _=>⟨k,aA,Q.out⟩,fun _=>by omega⟩,HG.out.xt _ _⟩
  go_wp2;go_ret;exact⟨-1,rfl,⟨fun q=>by omega,fun⟨j,hj,q⟩=>absurd (HA.out j hj (by omega)) q⟩,HG.out⟩
theorem wE(l:List Clk)(m:List Lmt)(al am:Option Addr)(cl cm B:Nat)(w:World)(c:w.cell? ⟨B,0,none⟩=some (.slice al l.length cl))(hf:Fit l.length)(h:ag 3 lQ w am m)(hm:Fit m.length):
  Calls Tryz.prog 156 #[.slice am m.length cm,.func (.func 157) #[] #[.pointer (some ⟨B,0,none⟩)]] w (aN w (.bool (decide (DA l m)))):=by
 have H:=aa h;have HF:=aa hf;have HM:=aa hm;have HC:=aa c;clear h hf c hm;go_enter Tryz.func156,Tryz.ntmps156;go_wp2_with fail;refine(Jv l m al am cl cm B w HC.out HF.out H.out HM.out).mono ?_;rintro e w' ⟨y,rfl,hy,hg⟩;have HY:=aa hy;have HG:=aa hg;clear hy hg;go_wp2_with fail;go_ret;exact⟨ai (by rw[decide_eq_decide];exact HY.out),HG.out⟩
theorem DH{l:List Clk}{m:List Lmt}:fC l m↔bA l=0/\m.length<=32/\¬DA l m:=
 ⟨fun⟨h1,h2,h3⟩=>⟨h1,h2,fun⟨k,hk,q⟩=>q (h3 k hk)⟩,fun⟨h1,h2,h3⟩=>⟨h1,h2,fun k hk=>Classical.byContradiction fun q=>h3 ⟨k,hk,q⟩⟩⟩
theorem qF(l:List Clk)(m:List Lmt)(al am:Option Addr)(cl cm:Nat)(w:World)(hl:ag 5 cY w al l)(hf:Fit l.length)(h:ag 3 lQ w am m)(hm:Fit m.length):
  Calls Tryz.prog 110 #[.slice al l.length cl,.slice am m.length cm] w (aN w (.bool (decide (fC l m)))):=by
 have H:=aa h;have HL:=aa hl;have HF:=aa hf;have HM:=aa hm;unfold Fit at hm;clear h hl hf;obtain⟨x,hx⟩:∃x,bA l=x:=⟨_,rfl⟩;have hPC:=fun W (hW:Gr w W)=>ni l al cl W (bj HL.out hW) HF.out;rw[hx] at hPC;have PC:=aa hPC;have HX:=aa hx;clear hPC hx;by_cases h0:x=0
 ·subst h0;by_cases h1:m.length<=32
  ·have h1b:decide ((m.length:Int)<=32)=true:=dtx (by omega);by_cases h2:DA l m
   ·have D2:=aa (dtx h2);have HE:Hid (¬fC l m):=aa (fun q=>(DH.1 q).2.2 h2);clear h2;go_enter Tryz.func110,Tryz.ntmps110;go_wp2_with fail;refine(PC.out _ ((gfl _).alloc _)).mono ?_;rintro e w' ⟨rfl,O,d,rfl⟩;go_wp2_with fail;refine(wE l m al am cl cm _ _ (by simp[go_sem]) HF.out (iR H.out (((gfl _).alloc _).xt _ _)) HM.out).mono ?_;rintro e w' ⟨rfl,O2,d2,rfl⟩;rw[D2.out];go_wp2_with fail;go_ret;exact⟨ai (dfx HE.out).symm,grr⟩
   have D2:=aa (dfx h2);have HE:Hid (fC l m):=aa (DH.2 ⟨HX.out,h1,h2⟩);clear h2;go_enter Tryz.func110,Tryz.ntmps110;go_wp2_with fail;refine(PC.out _ ((gfl _).alloc _)).mono ?_;rintro e w' ⟨rfl,O,d,rfl⟩;go_wp2_with fail;refine(wE l m al am cl cm _ _ (by simp[go_sem]) HF.out (iR H.out (((gfl _).alloc _).xt _ _)) HM.out).mono ?_;rintro e w' ⟨rfl,O2,d2,rfl⟩;rw[D2.out];go_wp2_with fail;go_ret;exact⟨ai (dtx HE.out).symm,grr⟩
  have h1b:decide ((m.length:Int)<=32)=false:=dfx (by omega);have HE:Hid (¬fC l m):=aa (fun q=>h1 q.2.1);go_enter Tryz.func110,Tryz.ntmps110;go_wp2_with fail;refine(PC.out _ ((gfl _).alloc _)).mono ?_;rintro e w' ⟨rfl,O,d,rfl⟩;go_wp2_with fail;go_ret;exact⟨ai (dfx HE.out).symm,grr⟩
 have h0b:(x==0)=false:=by simp[h0]
 have HE:Hid (¬fC l m):=aa (fun q=>h0 (by rw[<-HX.out];exact q.1));go_enter Tryz.func110,Tryz.ntmps110;go_wp2_with fail;refine(PC.out _ ((gfl _).alloc _)).mono ?_;rintro e w' ⟨rfl,O,d,rfl⟩;go_wp2_with fail;go_ret;exact⟨ai (dfx HE.out).symm,grr⟩
end
section
open Go.RowKit
abbrev Rt:=Option (Int×Int)
def chC(c:Clk)(k:Int):Int:=c.choices.getD k.toNat 0
def gN(c:Clk)(k:Int):Int:=if c.kind=1 then -1 else if c.kind=4 then c.parents.getD (chC c k).toNat 0 else c.parents.getD 0 0
def mG(c:Clk)(h:Int)(n d:Int):Rt:=
 if c.kind=2 then some (oN n d h,oD n d h) else if c.kind=3 then some (tN n d h,tD n d h) else if c.kind=5/\h=0 then none else some (n,d)
def mj(out:List Rt)(c:Clk)(k:Int):Rt:=
 if c.kind=1 then some (chC c k,1) else match out.getD (gN c k).toNat none with
  |none=>none
  |some (n,d)=>mG c (chC c k) n d
def nK:List Clk->List Int->List Rt->List Rt
 |c::l,k::s,out=>nK l s (out++ [mj out c k])
 |_,_,out=>out
def rts(l:List Clk)(s:List Int):List Rt:=nK l s []
theorem K0(l:List Clk):∀(s:List Int) (out:List Rt) (c:Clk) (k:Int),l.length=s.length->nK (l++ [c]) (s++ [k]) out=nK l s out++ [mj (nK l s out) c k]:=by
 induction l with
 |nil=>intro s out c k h;have:s= []:=List.eq_nil_of_length_eq_zero (by simpa using h.symm);subst this;rfl
 |cons d l ih=>
  intro s out c k h;cases s with
  |nil=>simp at h
  |cons j s=>exact ih s _ c k (by simpa using h)
theorem Dt(l:List Clk)(s:List Int)(k:Nat)(h:k<l.length)(h':k<s.length):rts (l.take (k+1)) (s.take (k+1))=rts (l.take k) (s.take k)++ [mj (rts (l.take k) (s.take k)) l[k] s[k]]:=by rw[qN l k h,qN s k h'];exact K0 _ _ _ _ _ (by simp;omega)
theorem MH(l:List Clk):∀(s:List Int) (out:List Rt),l.length=s.length->(nK l s out).length=out.length+l.length:=by
 induction l with
 |nil=>intro s out h;simp[nK]
 |cons d l ih=>
  intro s out h;cases s with
  |nil=>simp at h
  |cons j s=>rw[nK,ih s _ (by simpa using h)];simp;omega
theorem kt(l:List Clk)(s:List Int)(h:l.length=s.length):(rts l s).length=l.length:=by simp[rts,MH l s [] h]
theorem vr{t t':Nat}(h:t<=t'):(64:Int)^t<=64^t':=by have h1:=Nat.pow_le_pow_right (show 0<64 by omega) h;have e1:((64^t:Nat):Int)=(64:Int)^t:=Int.natCast_pow 64 t;have e2:((64^t':Nat):Int)=(64:Int)^t':=Int.natCast_pow 64 t';omega
theorem Tk(t:Nat):(1:Int)<=64^t:=by have:=vr (Nat.zero_le t);simpa using this
def rF(t:Nat)(r:Rt):Prop:=∀n d,r=some (n,d)->bU n d=true/\1<=n/\n<=4000000000*64^t/\d<=64^t
theorem rF.mono{t t':Nat}{r:Rt}(h:rF t r)(ht:t<=t'):rF t' r:=fun n d e=>by obtain⟨h1,h2,h3,h4⟩:=h n d e;have hp:=vr ht;exact⟨h1,h2,by have:=Int.mul_le_mul_of_nonneg_left hp (show(0:Int)<=4000000000 by omega);omega,by omega⟩
theorem Pr{t:Nat}(h:t<=4):(64:Int)^t<=16777216:=by have:(64:Int)^t<=64^4:=vr h;simpa using this
theorem Ec(n d:Int)(h0:1<=n)(h1:n<=144115188075855872)(hd:1<=d)(kf:d<=16777216):
  bU (gQ n d) (iw n d)=true/\1<=gQ n d/\gQ n d<=n/\iw n d<=d/\kI n d=0:=by
 have ho:=Ut n d (by omega) h1 hd kf;obtain⟨hv,hx,he⟩:=Xu n d ho;have hg:=iu n d hd;have v:=dX hv;have e1:=dq n (Int.gcd n d) (by omega) hg.1;have e2:=dq d (Int.gcd n d) (by omega) hg.1;refine⟨hv,?_,?_,?_,he⟩
 ·rcases Int.lt_or_le 0 (gQ n d) with q|q
  ·omega
  have:gQ n d=0:=by omega
  rw[this,Int.zero_mul] at hx;have:=Int.mul_pos (show(0:Int)<n by omega) (show 0<iw n d by omega);omega
 ·rw[gQ,if_pos ho];exact e1.2
 rw[iw,if_pos ho];exact e2.2
theorem Mb{t:Nat}{n d k:Int}(hv:bU n d=true)(h1:1<=n)(h2:n<=4000000000*64^t)(h3:d<=64^t)(k0:1<=k)(k1:k<=64)(ht:t+1<=4):
  rF (t+1) (some (oN n d k,oD n d k)):=by
 have v:=dX hv;have p4:=Pr (t:=t) (by omega);have p5:=Pr ht;have ps:(64:Int)^(t+1)=64^t*64:=Int.pow_succ 64 t;have hm:=vr (show t<=t+1 by omega);have hdk:d*k<=64^t*64:=Int.mul_le_mul h3 k1 (by omega) (by omega);have hdk1:1<=d*k:=by have:=Int.mul_pos (show 0<d by omega) (show 0<k by omega);omega
 have hn:=Ec n (d*k) h1 v.2.1 hdk1 (by omega);have ho:=Dr n d k (by omega) v.2.2.1 k0;have hok:eu n d k=true:=by simp[eu,hv];omega
 intro n' d' e;have e1:oN n d k=gQ n (d*k):=by rw[oN,if_pos hok,ho.2.1]
 have e2:oD n d k=iw n (d*k):=by rw[oD,if_pos hok,ho.2.2]
 simp only[Option.some.injEq,Prod.mk.injEq] at e;obtain⟨rfl,rfl⟩:=e;rw[e1,e2];exact⟨hn.1,hn.2.1,by omega,by omega⟩
theorem Lr{t:Nat}{n d k:Int}(hv:bU n d=true)(h1:1<=n)(h2:n<=4000000000*64^t)(h3:d<=64^t)(k0:1<=k)(k1:k<=64)(ht:t+1<=4):
  rF (t+1) (some (tN n d k,tD n d k)):=by
 have v:=dX hv;have p4:=Pr (t:=t) (by omega);have p5:=Pr ht;have ps:(64:Int)^(t+1)=64^t*64:=Int.pow_succ 64 t;have hm:=vr (show t<=t+1 by omega);have hq:=pg k d k0;have hg:=lY k d k0;have jv:=iu k d v.2.2.1;have hde:=dq d (Int.gcd k d) (by omega) hg.1;have kf:1<=d/(Int.gcd k d:Int):=by have h5:=Int.le_ediv_of_mul_le (a:=1) (b:=d) (c:=(Int.gcd k d:Int)) (by omega) (by omega);exact h5
 have hnk:n*(k/(Int.gcd k d:Int))<=4000000000*64^t*64:=Int.mul_le_mul h2 (by omega) (by omega) (by have:=Tk t;omega);have hnk1:1<=n*(k/(Int.gcd k d:Int)):=by have:=Int.mul_pos (show 0<n by omega) (show 0<k/(Int.gcd k d:Int) by omega);omega
 have uZ:¬nZ n d k:=by unfold nZ;have:n<=144115188075855872/(k/(Int.gcd k d:Int)):=Int.le_ediv_of_mul_le (by omega) (by omega);omega
 have hn:=Ec (n*(k/(Int.gcd k d:Int))) (d/(Int.gcd k d:Int)) hnk1 (by omega) kf (by omega);have hok:eu n d k=true:=by simp[eu,hv];omega
 intro n' d' e;have e1:tN n d k=gQ (n*(k/(Int.gcd k d:Int))) (d/(Int.gcd k d:Int)):=by rw[tN,if_pos hok,tmN,tmD,if_neg uZ,if_neg uZ]
 have e2:tD n d k=iw (n*(k/(Int.gcd k d:Int))) (d/(Int.gcd k d:Int)):=by rw[tD,if_pos hok,tmN,tmD,if_neg uZ,if_neg uZ]
 simp only[Option.some.injEq,Prod.mk.injEq] at e;obtain⟨rfl,rfl⟩:=e;rw[e1,e2];exact⟨hn.1,hn.2.1,by omega,by omega⟩
theorem Ll(out:List Int):∀(ps:List Int) (n:Int),n<=jN out ps n/\∀p∈ps,out.getD p.toNat 0<=jN out ps n
 | [],n=>⟨Int.le_refl _,fun p h=>absurd h (by simp)⟩
 |q::ps,n=>by
  obtain⟨h1,h2⟩:=Ll out ps (max n (out.getD q.toNat 0));simp only[jN];refine⟨by omega,fun p hp=>?_⟩;rcases List.mem_cons.1 hp with rfl|hp
  ·omega
  exact h2 p hp
theorem xX{c:Clk}{i:Nat}{k:Int}(h:qv c i)(h1:c.kind≠1)(k0:0<=k)(k1:k<c.choices.length):gN c k∈c.parents/\0<=gN c k/\gN c k<i:=by
 obtain⟨hp,hc,_⟩:=h;have Qc:gN c k∈c.parents:=by
  unfold gN;rw[if_neg h1];have h0:∀j,j<c.parents.length->c.parents.getD j 0∈c.parents:=fun j hj=>by rw[List.getD_eq_getElem?_getD,List.getElem?_eq_getElem hj];exact List.getElem_mem hj
  by_cases h4:c.kind=4
  ·rw[if_pos h4];rcases hc with⟨h,_⟩|⟨h,_⟩|⟨_,hl,_,hd⟩|⟨h,_⟩
   ·omega
   ·omega
   ·obtain⟨_,d1,d2,_⟩:=hd k.toNat (by omega);have e:chC c k=c.choices[k.toNat]'(by omega):=by
     rw[chC,List.getD_eq_getElem?_getD,List.getElem?_eq_getElem (by omega)];rfl
    exact h0 _ (by rw[e];omega)
   omega
  rw[if_neg h4];refine h0 0 ?_;rcases hc with⟨h,_⟩|⟨_,hl,_⟩|⟨h,_⟩|⟨_,hl,_⟩
  ·exact absurd h h1
  ·omega
  ·exact absurd h h4
  omega
 obtain⟨j,hj,e⟩:=List.getElem_of_mem Qc;have:=hp j hj;rw[e] at this;exact⟨Qc,this⟩
theorem yk{c:Clk}{k:Int}(k0:0<=k)(k1:k<c.choices.length):∃h:k.toNat<c.choices.length,chC c k=c.choices[k.toNat]:=by refine⟨by omega,?_⟩;rw[chC,List.getD_eq_getElem?_getD,List.getElem?_eq_getElem (by omega)];rfl
theorem Tv{x:Int}(h0:1<=x)(h1:x<=4000000000):bU x 1=true:=by simp[bU];omega
theorem V4{out:List Rt}{F:List Int}{c:Clk}{i:Nat}{k:Int}(hF:∀x∈F,0<=x)(hl:out.length=i)(hlF:F.length=i)(h:qv c i)(k0:0<=k)(k1:k<c.choices.length)
  (hf:gF F c<=4) (ho:∀j (hj:j<out.length),rF (F.getD j 0).toNat out[j]):rF (gF F c).toNat (mj out c k):=by
 have hmx:=Ll F c.parents 0;by_cases h1:c.kind=1
 ·obtain⟨_,hc,_⟩:=h;rcases hc with⟨_,_,Ih,q0,q1⟩|⟨h,_⟩|⟨h,_⟩|⟨h,_⟩
  ·obtain⟨hk,e⟩:=yk k0 k1;have e0:k.toNat=0:=by omega
   rw[mj,if_pos h1,e];simp only[e0];have hfz:0<=gF F c:=by
    have:0<=ir c:=by(unfold ir;split<;>omega)
    unfold gF;omega
   refine rF.mono (t:=0) (fun n d e=>?_) (Nat.zero_le _);simp only[Option.some.injEq,Prod.mk.injEq] at e;obtain⟨rfl,rfl⟩:=e;exact⟨Tv q0 q1,q0,by simp;omega,by simp⟩
  ·omega
  ·omega
  omega
 obtain⟨hm,p0,p1⟩:=xX h h1 k0 k1;have hp:(gN c k).toNat<out.length:=by omega
 have hR:=ho _ hp;have tC:=hmx.2 _ hm;have e:out.getD (gN c k).toNat none=out[(gN c k).toNat]:=by rw[List.getD_eq_getElem?_getD,List.getElem?_eq_getElem hp];rfl
 rw[mj,if_neg h1,e];cases hr:out[(gN c k).toNat] with
 |none=>intro n d e;cases e
 |some nd=>
  obtain⟨n,d⟩:=nd;rw[hr] at hR;obtain⟨v1,v2,v3,v4⟩:=hR n d rfl;have hFp:0<=F.getD (gN c k).toNat 0:=by rw[List.getD_eq_getElem?_getD,List.getElem?_eq_getElem (by omega)];exact hF _ (List.getElem_mem (by omega))
  show rF _ (mG c (chC c k) n d);have Ot:c.kind=2∨c.kind=3->1<=chC c k/\chC c k<=64:=fun hk=>by
   obtain⟨jP,e'⟩:=yk k0 k1;rcases h.2.1 with⟨h,_⟩|⟨_,_,_,hd⟩|⟨h,_⟩|⟨h,_⟩
   ·omega
   ·obtain⟨_,d1,d2,_⟩:=hd _ jP;rw[e'];exact⟨d1,d2⟩
   ·omega
   omega
  unfold mG;by_cases h2:c.kind=2
  ·rw[if_pos h2];have hi:ir c=1:=by simp[ir,h2]
   unfold gF at hf ⊢;rw[hi] at hf ⊢;refine rF.mono (Mb v1 v2 v3 v4 (Ot (.inl h2)).1 (Ot (.inl h2)).2 (by omega)) (by omega)
  rw[if_neg h2];by_cases h3:c.kind=3
  ·rw[if_pos h3];have hi:ir c=1:=by simp[ir,h3]
   unfold gF at hf ⊢;rw[hi] at hf ⊢;refine rF.mono (Lr v1 v2 v3 v4 (Ot (.inr h3)).1 (Ot (.inr h3)).2 (by omega)) (by omega)
  rw[if_neg h3];have hi:ir c=0:=by simp[ir,h2,h3]
  split
  ·intro n d e;cases e
  unfold gF;rw[hi];exact rF.mono (t:=(F.getD (gN c k).toNat 0).toNat) (fun n' d' e=>by cases e;exact⟨v1,v2,v3,v4⟩) (by omega)
theorem xq{l:List Clk}{s:List Int}(hok:rK l)(hf:∀x∈cb l,x<=4)(hs:aI l s):∀k,k<=l.length->∀j (hj:j<(rts (l.take k) (s.take k)).length),rF ((cb (l.take k)).getD j 0).toNat (rts (l.take k) (s.take k))[j]:=by
 intro k;induction k with
 |zero=>intro _ j hj;simp[rts,nK] at hj
 |succ k ih=>
  intro hk j hj;have jP:k<l.length:=by omega
  have hks:k<s.length:=by rw[hs.1];exact jP
  have gO:(rts (l.take k) (s.take k)).length=k:=by rw[kt _ _ (by simp;omega)];simp;omega
  have hlf:(cb (l.take k)).length=k:=by rw[ln];simp;omega
  have e:=Dt l s k jP hks;have ef:=rp l k jP;obtain⟨_,hc⟩:=hok k jP;have aZ:=hs.2 k jP hks;have kX:=V4 (F:=cb (l.take k)) (out:=rts (l.take k) (s.take k)) (c:=l[k]) (i:=k) (k:=s[k]) (fun x hx=>(tf _ x hx).1) gO hlf hc aZ.1 aZ.2 (by
   refine hf _ ?_;have e2:cb l=fu (l.drop (k+1)) (cb (l.take (k+1))):=by
    conv=>lhs;rw[<-List.take_append_drop (k+1) l]
    have:∀(a b:List Clk) out,fu (a++b) out=fu b (fu a out):=by
     intro a b;induction a with
     |nil=>intro out;rfl
     |cons c a ih=>intro out;simp only[List.cons_append,fu];exact ih _
    exact this _ _ _
   have hm:∀(b:List Clk) (out:List Int),∀x∈out,x∈fu b out:=by
    intro b;induction b with
    |nil=>intro out x hx;exact hx
    |cons c b ih=>intro out x hx;exact ih _ x (List.mem_append_left _ hx)
   rw[e2];exact hm _ _ _ (by rw[ef];simp)) (ih (by omega))
  simp only[e,ef];rw[e,List.length_append,gO] at hj;by_cases hjk:j<k
  ·have:=ih (by omega) j (by rw[gO];exact hjk);rw[List.getElem_append_left (by rw[gO];exact hjk),List.getD_eq_getElem?_getD,List.getElem?_append_left (by rw[hlf];exact hjk),<-List.getD_eq_getElem?_getD];exact this
  have:j=k:=by simp at hj;omega
  subst this;rw[List.getElem_append_right (by omega),List.getD_eq_getElem?_getD,List.getElem?_append_right (by omega)];simp only[gO,hlf,Nat.sub_self,List.getElem_cons_zero,List.getElem?_cons_zero,Option.getD_some];exact kX
end
section
open Go.RowKit
open Classical
theorem Na(l:List Clk)(s:List Int)(al aS:Option Addr)(cl cs i:Nat)(w:World)(h:ag 5 cY w al l)(hs:ag 1 RI w aS s)(hi:i<l.length)(lJ:i<s.length)(hl:l.length<=16)(hc:qv l[i] i)(k0:0<=s[i])(k1:s[i]<l[i].choices.length)(fs:s.length<=16):
  Calls Tryz.prog 172 #[.slice al l.length cl,.slice aS s.length cs,.int .i64 i] w (aN w (.int .i64 (gN l[i] s[i]))):=by
 obtain⟨b,o,rfl,⟨c0,_⟩,⟨ap,cp,c1,c1l,jQ,sp⟩,⟨ac,cc,c2,c2l,mB,sc⟩,⟨c4,_⟩,c5,_⟩:=h i hi;have i1:(i:Int)<l.length:=by omega
 have i2:(i:Int)<s.length:=by omega
 by_cases h1:l[i].kind=1
 ·have b1:(l[i].kind==1)=true:=by simp[h1]
  have HP:=aa (show gN l[i] s[i]= -1 by rw[gN,if_pos h1]);clear h hs hc sp sc jQ mB h1;go_enter Tryz.func172,Tryz.ntmps172;go_wp2_with fail;go_ret;exact⟨bO HP.out.symm,(gfl _).alloc _⟩
 have b1:(l[i].kind==1)=false:=by simp[h1]
 obtain⟨hm,p0,p1⟩:=xX hc h1 k0 k1;by_cases h4:l[i].kind=4
 ·have b4:(l[i].kind==4)=true:=by simp[h4]
  obtain⟨hk,e⟩:=yk k0 k1;obtain⟨bs,os,rfl,⟨q1,y1⟩⟩:=hs.one i lJ;obtain⟨bc,oc,rfl,⟨q2,y2⟩⟩:=sc.one _ hk;have vz:0<=l[i].choices[s[i].toNat]/\l[i].choices[s[i].toNat]<=(l[i].parents.length:Int)-1:=by
   rcases hc.2.1 with⟨h,_⟩|⟨h,_⟩|⟨_,_,_,hd⟩|⟨h,_⟩
   ·omega
   ·omega
   ·obtain⟨_,d1,d2,_⟩:=hd _ hk;exact⟨d1,d2⟩
   omega
  have dw:(l[i].choices[s[i].toNat]).toNat<l[i].parents.length:=by omega
  obtain⟨bp,op,rfl,⟨q3,y3⟩⟩:=sp.one _ dw;have HP:=aa (show gN l[i] s[i]=l[i].parents[(l[i].choices[s[i].toNat]).toNat] by rw[gN,if_neg h1,if_pos h4,e,List.getD_eq_getElem?_getD,List.getElem?_eq_getElem dw];rfl)
  obtain⟨k,jP⟩:∃k:Nat,s[i]=k:=⟨_,(Int.toNat_of_nonneg k0).symm⟩;obtain⟨j,hj⟩:∃j:Nat,l[i].choices[s[i].toNat]=j:=⟨_,(Int.toNat_of_nonneg vz.1).symm⟩;obtain⟨y,hy⟩:∃y:Int,l[i].parents[(l[i].choices[s[i].toNat]).toNat]=y:=⟨_,rfl⟩;rw[hy] at q3 HP;have q2':w.cell? ⟨bc,oc+k,none⟩=some (.int .i64 j):=by
   have e1:s[i].toNat=k:=by omega
   rw[<-hj,<-e1];exact q2
  have q3':w.cell? ⟨bp,op+j,none⟩=some (.int .i64 y):=by
   have e1:(l[i].choices[s[i].toNat]).toNat=j:=by omega
   rw[<-e1];exact q3
  have k2:(k:Int)<l[i].choices.length:=by omega
  have j2:(j:Int)<l[i].parents.length:=by omega
  rw[jP] at q1;have x1:=ae q1;have x2:=ae q2';have x3:=ae q3';clear y1 y2 y3 h hs hc sp sc jQ mB h1 h4 q2 q3 hk e hm p0 p1 vz dw hj hy jP k0 k1;go_enter Tryz.func172,Tryz.ntmps172;go_wp2_with fail
  go_quiet (fail)
  go_wp2_with fail;go_ret;exact⟨bO HP.out.symm,grr⟩
 have b4:(l[i].kind==4)=false:=by simp[h4]
 have hl0:0<l[i].parents.length:=List.length_pos_of_mem hm;obtain⟨bp,op,rfl,⟨q3,y3⟩⟩:=sp.one 0 hl0;have HP:=aa (show gN l[i] s[i]=l[i].parents[0] by rw[gN,if_neg h1,if_neg h4,List.getD_eq_getElem?_getD,List.getElem?_eq_getElem hl0];rfl)
 have j2:(0:Int)<l[i].parents.length:=by omega
 rw[Nat.add_zero] at q3;have x3:=ae q3;clear y3 h hs hc sp sc jQ mB h1 h4 hm p0 p1;go_enter Tryz.func172,Tryz.ntmps172;go_wp2_with fail;go_ret;exact⟨bO HP.out.symm,(gfl _).alloc _⟩
def kW(w:World):Prop:=w.cell? ⟨0,0,none⟩=some (.int .i64 0)/\w.cell? ⟨0,1,none⟩=some (.int .i64 1)
theorem kW.gr{w w':World}(h:kW w)(hg:Gr w w'):kW w':=⟨aB hg h.1,aB hg h.2⟩
def fW(r:Rt):Int:=match r with|some (n,_)=>n|none=>0
def gC(r:Rt):Int:=match r with|some (_,d)=>d|none=>1
def prR(r:Rt):Int×Int:=(fW r,gC r)
def gu(ps:List (Int×Int)):List Value:=ps.flatMap fun r=> [.int .i64 r.1,.int .i64 r.2]
theorem hZ(ps:List (Int×Int)):(gu ps).length=ps.length*2:=Jf (fun r:Int×Int=> [.int .i64 r.1,.int .i64 r.2]) 2 (fun _=>rfl) ps
theorem Bn(ps:List (Int×Int))(i:Nat)(h:i<ps.length):(gu ps)[i*2]'(by rw[hZ];omega)= .int .i64 ps[i].1/\(gu ps)[i*2+1]'(by rw[hZ];omega)= .int .i64 ps[i].2:=by have h0:=nJ (fun r:Int×Int=> [Value.int .i64 r.1,.int .i64 r.2]) 2 (fun _=>rfl) ps i 0 h (by omega);have h1:=nJ (fun r:Int×Int=> [Value.int .i64 r.1,.int .i64 r.2]) 2 (fun _=>rfl) ps i 1 h (by omega);rw[Nat.add_zero] at h0;exact⟨Option.some.inj ((List.getElem?_eq_getElem (by rw[hZ];omega)).symm.trans h0),Option.some.inj ((List.getElem?_eq_getElem (by rw[hZ];omega)).symm.trans h1)⟩
theorem Uq(ps:List (Int×Int)):∀(i:Nat) (n d:Int),((gu ps).set (i*2) (.int .i64 n)).set (i*2+1) (.int .i64 d)=gu (ps.set i (n,d)):=by
 induction ps with
 |nil=>intro i n d;simp[gu]
 |cons p ps ih=>
  intro i n d;cases i with
  |zero=>simp[gu]
  |succ i=>have:=ih i n d;simp only[gu,List.flatMap_cons,List.set_cons_succ,List.cons_append,List.nil_append] at this ⊢;rw[show(i+1)*2=i*2+1+1 by omega];simp only[List.set_cons_succ];rw[this]
def qU(l:List Clk)(s:List Int)(k:Nat):List (Int×Int):=(rts (l.take k) (s.take k)).map prR++List.replicate (l.length-k) (0,0)
theorem Du(l:List Clk)(s:List Int)(k:Nat)(h:k<=l.length)(hs:s.length=l.length):(qU l s k).length=l.length:=by simp only[qU,List.length_append,List.length_map,List.length_replicate];rw[kt _ _ (by simp;omega)];simp;omega
theorem Ub(l:List Clk)(s:List Int)(k:Nat)(h:k<=l.length)(hs:s.length=l.length)(q:Nat)(hq:q<k):(qU l s k)[q]'(by rw[Du l s k h hs];omega)=prR ((rts (l.take k) (s.take k)).getD q none):=by
 have hl:(rts (l.take k) (s.take k)).length=k:=by rw[kt _ _ (by simp;omega)];simp;omega
 simp only[qU];rw[List.getElem_append_left (by simp;omega),List.getElem_map,List.getD_eq_getElem?_getD,List.getElem?_eq_getElem (by omega)];rfl
theorem SK(l:List Clk)(s:List Int)(k:Nat)(h:k<l.length)(hs:s.length=l.length):(qU l s k).set k (prR (mj (rts (l.take k) (s.take k)) l[k] (s[k]'(by omega))))=qU l s (k+1):=by
 have hl:(rts (l.take k) (s.take k)).length=k:=by rw[kt _ _ (by simp;omega)];simp;omega
 have hr:List.replicate (l.length-k) ((0,0):Int×Int)=(0,0)::List.replicate (l.length-(k+1)) (0,0):=by rw[show l.length-k=(l.length-(k+1))+1 by omega,List.replicate_succ]
 simp only[qU];rw[List.set_append_right _ _ (by simp;omega),List.length_map,hl,Nat.sub_self,hr,List.set_cons_zero,Dt l s k h (by omega),List.map_append,List.append_assoc];rfl
theorem Tc(n:Nat):(madeCells #[Value.int .i64 0,.int .i64 0] (n*2)).toList=gu (List.replicate n (0,0)):=by
 apply List.ext_getElem
 ·rw[hZ];simp[madeCells]
 intro i h1 h2;have hz:∀v∈gu (List.replicate n (0,0)),v= .int .i64 0:=by intro v hv;simp only[gu,List.mem_flatMap] at hv;obtain⟨p,hp,hv⟩:=hv;obtain⟨_,rfl⟩:=List.mem_replicate.1 hp;simpa using hv
 rw[hz _ (List.getElem_mem h2)];have hm:∀v∈(madeCells #[Value.int .i64 0,.int .i64 0] (n*2)).toList,v= .int .i64 0:=by intro v hv;simp only[madeCells,Array.toList_map,List.mem_map] at hv;obtain⟨j,_,rfl⟩:=hv;rcases Nat.mod_two_eq_zero_or_one j with e|e<;>simp[e]
 exact hm _ (List.getElem_mem h1)
theorem JI:(Tryz.prog.info? 57).map (fun i=>(i.zero,i.size,i.bytes))=some (some (.agg #[.int .i64 0,.int .i64 0]),2,16):=by kernel_rfl
theorem Tw(l:List Clk)(s:List Int)(hs:s.length=l.length):qU l s l.length=(rts l s).map prR:=by simp only[qU,List.take_length,Nat.sub_self,List.replicate_zero,List.append_nil];rw[List.take_of_length_le (by omega)]
def Qt(w:World)(l:List Clk)(s:List Int)(e:Ending)(w':World):Prop:=
 ∃RB,e= .returned (.slice (some ⟨RB,0,none⟩) l.length l.length)/\Row w' RB 57 (gu ((rts l s).map prR))/\w.heap.size<=RB/\Gr w w'
def iv(c:Clk)(h:Int):Rt->Rt
 |none=>none
 |some (n,d)=>mG c h n d
theorem KL{out:List Rt}{c:Clk}{k:Int}(h1:c.kind≠1):mj out c k=iv c (chC c k) (out.getD (gN c k).toNat none):=by rw[mj,if_neg h1];cases out.getD (gN c k).toNat none<;>rfl
theorem U4(a b c d:Int)(w:World):(binOp .eql 57 (.agg #[.int .i64 a,.int .i64 b]) (.agg #[.int .i64 c,.int .i64 d])).run Tryz.prog w= .ok (.bool (a==c&&b==d)) w:=by
 have hu:Tryz.prog.underlying 57=some (.struct (Tryz.prog.fieldsOf 57)):=by kernel_rfl
 have hs:Tryz.prog.stoodInHeld 57=false:=by kernel_rfl
 rw[run_eql_struct,run_equalIn_agg w 9999 _ _ _ hu hs];cases h1:(a==c)<;>cases h2:(b==d)<;>simp[go_sem,h1,h2]
theorem So(l:List Clk)(s:List Int)(al aS:Option Addr)(cl cs:Nat)(w:World)(h:ag 5 cY w al l)(hs:ag 1 RI w aS s)(hc:bA l=0)(aZ:aI l s)(qS:kW w):
  Calls Tryz.prog 138 #[.slice al l.length cl,.slice aS s.length cs] w (Qt w l s):=by
 obtain⟨nb,ok,pr,fs⟩:=bm hc;have hl:=cg nb;have H:=aa h;have HS:=aa hs;have OK:=aa ok;have HT:=aa aZ;have HO:=aa qS;have NB:=aa nb;have RO:=aa (xq ok fs aZ);clear h hs ok aZ qS hc nb pr fs;obtain⟨j0,hj,kN,ka,lg⟩:=info_parts JI;have jV:∀W:World,(Instr.makeSlice 63 (.int .i64 (l.length:Int)) (.int .i64 (l.length:Int))).run Tryz.prog W= .ok (.slice (some ⟨W.heap.size,0,none⟩) l.length l.length) (W.alloc (.cells (madeCells #[.int .i64 0,.int .i64 0] (l.length*2)) 57)):=fun W=>by have hr:=run_make (P:=Tryz.prog) W 63 57 j0 (.agg #[.int .i64 0,.int .i64 0]) Tryz.underlying63 hj kN .i64 .i64 l.length l.length (by omega) (Int.le_refl _) (by rw[lg];omega) (by omega);simp only[Int.toNat_natCast,ka] at hr;exact hr
 go_enter Tryz.func138,Tryz.ntmps138;go_wp2_with fail;obtain⟨W2,hW2⟩:∃W2:World,Hid (W2=w.alloc (.cells (madeCells #[.int .i64 0,.int .i64 0] (l.length*2)) 57)):=⟨_,aa rfl⟩;rw[<-hW2.out];obtain⟨RB,hRB⟩:∃RB:Nat,Hid (w.heap.size=RB):=⟨_,aa rfl⟩;rw[hRB.out];have R2:Hid (Row W2 RB 57 (gu (qU l s 0))):=aa (by rw[hW2.out,<-hRB.out];have:=Row.new w (madeCells #[.int .i64 0,.int .i64 0] (l.length*2)) 57;rw[Tc] at this;simpa [qU,rts,nK] using this)
 have HG2:Hid (Gr w W2):=aa (by rw[hW2.out];exact(gfl _).alloc _);have rb:Hid (w.heap.size<=RB):=aa (by rw[hRB.out];exact Nat.le_refl _);clear hW2 jV;go_loopw [15] (fun i wr=>∃k:Nat,k<=l.length/\i= .int .i64 k/\Row wr RB 57 (gu (qU l s k))/\Gr w wr) (fun i _=>l.length-(intOf i).toNat);case atStart=>exact⟨0,Nat.zero_le _,rfl,R2.out,HG2.out⟩
 case round=>
  clear R2 HG2;obtain⟨k,hk,rfl,hr,hg⟩:=hrel;have HR:=aa hr;have HG:=aa hg;clear hr hg;obtain⟨wo,rfl⟩:∃wo:World,wo=wr:=⟨_,rfl⟩;by_cases aA:k<l.length
  ·have kJ:k<s.length:=by have:=HT.out.1;omega
   obtain⟨k0,k1⟩:=HT.out.2 k aA kJ;obtain⟨_,rE⟩:=OK.out k aA;obtain⟨fp,fc⟩:=fR NB.out aA;have Bb:=Na l s al aS cl cs k;have CK:=aa rE;obtain⟨b,o,rfl,⟨c0,_⟩,⟨ap,cp,c1,c1l,jQ,sp⟩,⟨ac,cc,c2,c2l,mB,sc⟩,⟨c4,_⟩,c5,_⟩:=bj H.out HG.out k aA;obtain⟨bs,os,rfl,⟨q1,y1⟩⟩:=(HS.out.giI HG.out).one k kJ;obtain⟨t9,e⟩:=yk k0 k1;obtain⟨bc,oc,rfl,⟨q2,y2⟩⟩:=sc.one _ t9;rw[<-e] at q2 y2;obtain⟨j,hj⟩:∃j:Nat,s[k]=j:=⟨_,(Int.toNat_of_nonneg k0).symm⟩;obtain⟨x,hx⟩:∃x:Int,chC l[k] s[k]=x:=⟨_,rfl⟩;rw[hx] at q2 y2;have e1:s[k].toNat=j:=by omega
   rw[e1] at q2;rw[hj] at q1;have j2:(j:Int)<l[k].choices.length:=by omega
   have l1:(k:Int)<l.length:=by omega
   have l2:(k:Int)<s.length:=by omega
   have x1:=ae q1;have x2:=ae q2;have HX:=aa hx;have HJ:=aa hj;have PAR:=aa Bb;have KK:=aa (show 0<=s[k]/\s[k]<l[k].choices.length from⟨k0,k1⟩);have SL:Hid (s.length<=16):=aa (by have:=HT.out.1;omega);clear Bb rE sp sc jQ mB t9 e hx hj e1 y1 k0 k1;unfold aK at y2;go_wp2_with fail
   go_quiet (fail)
   go_wp2_with fail;obtain⟨W3,hW3⟩:∃W3:World,Hid (W3=(wo.alloc (.cells #[.int .i64 l[k].kind,.slice ap l[k].parents.length cp,.slice (some ⟨bc,oc,none⟩) l[k].choices.length cc,.int .i64 l[k].low,.int .i64 l[k].high] 130)).drewN nq):=⟨_,aa rfl⟩;rw[<-hW3.out];obtain⟨B8,hB8⟩:∃B8:Nat,Hid (wo.heap.size=B8):=⟨_,aa rfl⟩;rw[hB8.out];have RX:Hid (Row W3 B8 130 [.int .i64 l[k].kind,.slice ap l[k].parents.length cp,.slice (some ⟨bc,oc,none⟩) l[k].choices.length cc,.int .i64 l[k].low,.int .i64 l[k].high]):=aa (by rw[hW3.out,<-hB8.out];exact(Row.new wo _ _).drewN _);have R3:Hid (Row W3 RB 57 (gu (qU l s k))):=aa (by rw[hW3.out];exact(HR.out.alloc _).drewN _);have G3:Hid (Gr w W3):=aa (by rw[hW3.out];exact(HG.out.alloc _).drewN _);clear hW3 hB8 HR HG c0 c1 c2 c4 c5 q1 q2 x1 x2;refine(PAR.out W3 (bj H.out G3.out) (HS.out.giI G3.out) aA kJ hl CK.out KK.out.1 KK.out.2 SL.out).mono ?_;rintro e W4 ⟨rfl,gy⟩;have RX4:=aa (RX.out.gr gy);have R4:=aa (R3.out.gr gy);have G4:=aa (G3.out.trans gy);clear gy RX R3 G3;have STEP:=aa (SK l s k aA HT.out.1);have r0:=RX4.out.cell 0 (by simp);have rh:=RX4.out.has;simp only[List.getElem_cons_zero] at r0;have fin:∀n d:Int,prR (mj (rts (l.take k) (s.take k)) l[k] s[k])=(n,d)->∀W,Gr W4 W->Row ((W.setCell ⟨RB,k*2,none⟩ (.int .i64 n)).setCell ⟨RB,k*2+1,none⟩ (.int .i64 d)) RB 57 (gu (qU l s (k+1))):=fun n d hnd W hW=>by have:=((R4.out.gr hW).set (k*2) (.int .i64 n)).set (k*2+1) (.int .i64 d);rw[Uq,<-hnd,STEP.out] at this;exact this
   have FIN:=aa fin;clear fin;by_cases h1:l[k].kind=1
   ·have hp:gN l[k] s[k]= -1:=(by rw[gN,if_pos h1]);rw[hp];have SR:=aa (show mj (rts (l.take k) (s.take k)) l[k] s[k]=some (x,1) by rw[mj,if_pos h1,HX.out]);have VL:=aa (Du l s k hk HT.out.1);have e0:=R4.out.cell (k*2) (by rw[hZ,VL.out];omega);have e1:=R4.out.cell (k*2+1) (by rw[hZ,VL.out];omega);have f0:=R4.out.free (k*2);have f1:=R4.out.free (k*2+1);have fh:=R4.out.has;clear hp h1;go_wp2_with fail;refine⟨⟨k+1,by omega,by go_num,FIN.out x 1 (by rw[SR.out];rfl) _ (gfl _),(G4.out.setc rb.out).setc rb.out⟩,by simp[intOf];omega⟩
   obtain⟨hm,p0,p1⟩:=xX CK.out h1 KK.out.1 KK.out.2;obtain⟨q,hq⟩:∃q:Nat,gN l[k] s[k]=q:=⟨_,(Int.toNat_of_nonneg p0).symm⟩;have Ig:q<k:=by omega
   have VL:=aa (Du l s k hk HT.out.1);obtain⟨r,hr⟩:∃r:Rt,(rts (l.take k) (s.take k)).getD q none=r:=⟨_,rfl⟩;have ot:=Bn (qU l s k) q (by rw[VL.out];omega);rw[Ub l s k hk HT.out.1 q Ig,hr] at ot;have g0:=R4.out.cell (q*2) (by rw[hZ,VL.out];omega);have g1:=R4.out.cell (q*2+1) (by rw[hZ,VL.out];omega);rw[ot.1] at g0;rw[ot.2] at g1;have SR0:Hid (mj (rts (l.take k) (s.take k)) l[k] s[k]=iv l[k] x r):=aa (by rw[KL h1,hq,Int.toNat_natCast,hr,HX.out]);have e0:=R4.out.cell (k*2) (by rw[hZ,VL.out];omega);have e1:=R4.out.cell (k*2+1) (by rw[hZ,VL.out];omega);have f0:=R4.out.free (k*2);have f1:=R4.out.free (k*2+1);have fh:=R4.out.has;have b1:(l[k].kind==1)=false:=by simp[h1]
   have o0:=(HO.out.gr G4.out).1;have o1:=(HO.out.gr G4.out).2;have oh:=ae o0;have q2:(q:Int)<l.length:=by omega
   rw[hq];have HRr:=aa hr;have EQ:=U4;clear ot hm p0 p1 hq h1 hr;cases r with
   |none=>
    simp only[prR,fW,gC] at g0 g1;go_wp2_with fail
    go_quiet (fail)
    go_wp2_with fail;refine⟨⟨k+1,by omega,by go_num,FIN.out 0 1 (by rw[SR0.out];rfl) _ grr,by first|exact(G4.out.setc rb.out).setc rb.out|exact((G4.out.drewN _).setc rb.out).setc rb.out⟩,by simp[intOf];omega⟩
   |some nd=>
    obtain⟨n,d⟩:=nd;have hR:bU n d=true/\1<=n:=by have hlr:(rts (l.take k) (s.take k)).length=k:=(by rw[kt _ _ (by have:=HT.out.1;simp;omega)];simp;omega);have h9:=RO.out k hk q (by rw[hlr];exact Ig);have e:=HRr.out;rw[List.getD_eq_getElem?_getD,List.getElem?_eq_getElem (by rw[hlr];exact Ig)] at e;obtain⟨h7,h8,_⟩:=h9 n d e;exact⟨h7,h8⟩
    obtain⟨hv,gc⟩:=hR;obtain⟨v1,v2,v3,v4,v5⟩:=dX hv;have nb:(n==0)=false:=beq_eq_false_iff_ne.2 (by omega);simp only[prR,fW,gC] at g0 g1;clear hv v5;by_cases h5:l[k].kind=5
    ·have b5:(l[k].kind==5)=true:=(by simp[h5]);have b2:(l[k].kind==2)=false:=(by simp[h5]);have b3:(l[k].kind==3)=false:=(by simp[h5]);by_cases lR:x=0
     ·have SR:=aa (show iv l[k] x (some (n,d))=none by simp[iv,mG,h5,lR]);have bx:(x==0)=true:=(by simp[lR]);clear h5 lR;go_wp2_with fail
      go_quiet (fail)
      go_wp2_with fail;refine⟨⟨k+1,by omega,by go_num,FIN.out 0 1 (by rw[SR0.out,SR.out];rfl) _ grr,((G4.out.trans grr).setc rb.out).setc rb.out⟩,by simp[intOf];omega⟩
     have SR:=aa (show iv l[k] x (some (n,d))=some (n,d) by simp[iv,mG,h5,lR]);have bx:(x==0)=false:=(by simp[lR]);clear h5 lR;go_wp2_with fail
     go_quiet (fail)
     go_wp2_with fail;refine⟨⟨k+1,by omega,by go_num,FIN.out n d (by rw[SR0.out,SR.out];rfl) _ grr,((G4.out.trans grr).setc rb.out).setc rb.out⟩,by simp[intOf];omega⟩
    have b5:(l[k].kind==5)=false:=(by simp[h5]);by_cases h2:l[k].kind=2
    ·have b2:(l[k].kind==2)=true:=(by simp[h2]);have SR:=aa (show iv l[k] x (some (n,d))=some (oN n d x,oD n d x) by simp[iv,mG,h2]);clear h5 h2;go_wp2_with fail
     go_quiet (fail)
     go_wp2_with fail;refine(Ui n d x _ (by omega) (by omega) (by omega) (by omega)).mono ?_;rintro e w' ⟨rfl,O1,D1,rfl⟩;go_wp2_with fail;refine⟨⟨k+1,by omega,by go_num,(FIN.out (oN n d x) (oD n d x) (by rw[SR0.out,SR.out];rfl) _ (gfl _)).xt O1 D1,((G4.out.setc rb.out).setc rb.out).xt O1 D1⟩,by simp[intOf];omega⟩
    have b2:(l[k].kind==2)=false:=(by simp[h2]);by_cases h3:l[k].kind=3
    ·have b3:(l[k].kind==3)=true:=(by simp[h3]);have SR:=aa (show iv l[k] x (some (n,d))=some (tN n d x,tD n d x) by simp[iv,mG,h3]);clear h5 h2 h3;go_wp2_with fail
     go_quiet (fail)
     go_wp2_with fail;refine(Ss n d x _ (by omega) (by omega) (by omega) (by omega)).mono ?_;rintro e w' ⟨rfl,O1,D1,rfl⟩;go_wp2_with fail;refine⟨⟨k+1,by omega,by go_num,(FIN.out (tN n d x) (tD n d x) (by rw[SR0.out,SR.out];rfl) _ (gfl _)).xt O1 D1,((G4.out.setc rb.out).setc rb.out).xt O1 D1⟩,by simp[intOf];omega⟩
    have b3:(l[k].kind==3)=false:=(by simp[h3]);have SR:=aa (show iv l[k] x (some (n,d))=some (n,d) by simp[iv,mG,h2,h3,h5]);clear h5 h2 h3;go_wp2_with fail
    go_quiet (fail)
    go_wp2_with fail;refine⟨⟨k+1,by omega,by go_num,FIN.out n d (by rw[SR0.out,SR.out];rfl) _ grr,((G4.out.trans grr).setc rb.out).setc rb.out⟩,by simp[intOf];omega⟩
  obtain rfl:k=l.length:=by omega
  go_wp2_with fail;go_ret;refine⟨RB,rfl,?_,rb.out,HG.out⟩;have:=HR.out;rwa [Tw l s HT.out.1] at this
def Mx(w:World)(l:List Clk)(s:List Int)(e:Ending)(w':World):Prop:=
 ∃RB,e= .returned (.tuple #[.slice (some ⟨RB,0,none⟩) l.length l.length,.int .i64 0])/\Row w' RB 57 (gu ((rts l s).map prR))/\w.heap.size<=RB/\Gr w w'
theorem zm(l:List Clk)(s:List Int)(al aS:Option Addr)(cl cs:Nat)(w:World)(h:ag 5 cY w al l)(hs:ag 1 RI w aS s)(hc:bA l=0)(aZ:aI l s)(qS:kW w):
  Calls Tryz.prog 73 #[.slice al l.length cl,.slice aS s.length cs] w (Mx w l s):=by
 obtain⟨nb,_⟩:=bm hc;have hl:=cg nb;have eX:s.length<=16:=by have:=aZ.1;omega
 have PC:=aa (ni l al cl w h (by unfold Fit;omega));have H:=aa h;have HS:=aa hs;have HC:=aa hc;have HT:=aa aZ;have HO:=aa qS;have HD:=aa (dtx aZ);rw[HC.out] at PC;clear nb h hs hc aZ qS;go_enter Tryz.func73,Tryz.ntmps73;go_wp2_with fail;refine PC.out.mono ?_;rintro e w1 ⟨rfl,bD⟩;have G1:=aa bD;clear bD;go_wp2_with fail;refine(K7 l s al aS cl cs w1 (bj H.out G1.out) (HS.out.giI G1.out) (by unfold Fit;omega) (by unfold Fit;omega)).mono ?_;rintro e w' ⟨rfl,rfl⟩;rw[HD.out];go_wp2_with fail;refine(So l s al aS cl cs w1 (bj H.out G1.out) (HS.out.giI G1.out) HC.out HT.out (HO.out.gr G1.out)).mono ?_;rintro e w2 ⟨RB,rfl,hr,hb,hg⟩;have HR:=aa hr;have G2:=aa (G1.out.trans hg);have ij:w.heap.size<=RB:=Nat.le_trans G1.out.size hb;clear hr hg hb;go_wp2_with fail;go_ret2;exact⟨RB,rfl,HR.out,ij,G2.out⟩
end
end Go.Proofs.YtlmhkjdkcoiioaaGreatDoor
