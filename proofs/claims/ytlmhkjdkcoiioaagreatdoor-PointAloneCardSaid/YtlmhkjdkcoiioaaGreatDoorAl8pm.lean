/- Lemmas and contracts for the proof of PointAlone (several texts in one, printed by wip/tools/pack.py): ZPrgB ZPrgC ZPrgD ZTailIn QaL QaP. -/
import Derived.Test.YtlmhkjdkcoiioaaGreatDoorAl8pl
import Derived.Test.YtlmhkjdkcoiioaaGreatDoorAl8pa
import Derived.Test.YtlmhkjdkcoiioaaGreatDoorAl8pb
import Derived.OrdersIn
import Derived.TacticsIn
import Derived.RangeFuncCalls
set_option maxRecDepth 100000
set_option maxHeartbeats 16000000
set_option linter.unusedVariables false
set_option linter.unusedSimpArgs false
namespace Go.Proofs.YtlmhkjdkcoiioaaGreatDoor
section
open Go.RowKit
open Classical
def Uw(w:World)(v:Value)(s:Sup):Prop:=∃al cl,v= .agg #[.int .i64 s.parent,.slice al s.levels.length cl,.int .i64 s.dropout,.int .i64 s.capacity,.bool s.always]/\Fit s.levels.length/\ag 1 RI w al s.levels
def iJ{α:Type}(V:World->Value->α->Prop)(g:Nat)(lb:Array Value)(xs:List α)(p:α->Prop)(w:World):Prop:=
 ∀(W:World) (v:Value) (k:Nat) (hk:k<xs.length),Gr w W->V W v xs[k]->Calls Tryz.prog g (#[v]++lb) W (aN W (.bool (decide (p xs[k]))))
def FQ{α:Type}(p:α->Prop)(xs:List α)(x:Int):Prop:=(x= -1/\∀k (h:k<xs.length),¬p xs[k])∨∃k,∃h:k<xs.length,x=k/\p xs[k]/\∀j (hj:j<k),¬p xs[j]
def mW{α:Type}(p:α->Prop)(xs:List α)(w:World)(e:Ending)(w':World):Prop:=∃x,e= .returned (.int .i64 x)/\FQ p xs x/\Gr w w'
theorem Ld(l:List Sup)(ao:Option Addr)(cap:Nat)(p:Sup->Prop)(w:World)(h:ag 5 bG w ao l)(hf:Fit l.length)(hp:iJ Uw 151 #[] l p w):
  Calls Tryz.prog 182 #[.slice ao l.length cap,.func (.func 151) #[] #[]] w (mW p l w):=by
 unfold Fit at hf;have H:=aa h;have HP:=aa hp;clear h hp;go_enter Tryz.func182,Tryz.ntmps182;go_wp2;go_loopw [8] (fun i wr=>∃k:Nat,k<=l.length/\i= .int .i64 k/\(∀j (hj:j<k) (lA:j<l.length),¬p l[j])/\Gr w wr) (fun i _=>l.length-(intOf i).toNat);case atStart=>exact⟨0,Nat.zero_le _,rfl,fun j h=>absurd h (by omega),gfl _⟩
 case round=>
  obtain⟨k,hk,rfl,aH,hg⟩:=hrel;have HA:=aa aH;have HG:=aa hg;clear aH hg;by_cases aA:k<l.length
  ·obtain⟨b,o,rfl,⟨c0,_⟩,⟨al,cl,c1,c1l,jQ,cL⟩,⟨c2,_⟩,⟨c3,_⟩,c4⟩:=aX H.out HG.out k aA;unfold RB at c4;have cr:=HP.out wr (.agg #[.int .i64 l[k].parent,.slice al l[k].levels.length cl,.int .i64 l[k].dropout,.int .i64 l[k].capacity,.bool l[k].always]) k aA HG.out ⟨al,cl,rfl,by unfold Fit at*;omega,cL⟩;clear cL jQ;by_cases hq:p l[k]
   ·rw[dtx hq] at cr;have Q:=aa hq;clear hq;go_wp2_with fail;refine cr.mono ?_;rintro e w' ⟨rfl,O,d,rfl⟩;go_wp2_with fail;go_ret;exact⟨_,rfl,.inr ⟨k,aA,rfl,Q.out,fun j hj=>HA.out j hj (by omega)⟩,HG.out.xt _ _⟩
   rw[dfx hq] at cr;have Q:=aa hq;clear hq;go_wp2_with fail;refine cr.mono ?_;rintro e w' ⟨rfl,O,d,rfl⟩;go_wp2_with fail;go_roundw;case rel=>
    refine⟨k+1,by omega,by go_num,fun j hj lA=>?_,HG.out.xt _ _⟩;by_cases e:j=k
    ·subst e;exact Q.out
    exact HA.out j (by omega) lA
   case measure=>simp[intOf];omega
  go_wp2;go_ret;exact⟨_,rfl,.inl ⟨rfl,fun j hj=>HA.out j (by omega) hj⟩,HG.out⟩
def lE{α:Type}(p:α->Prop)(xs:List α):Prop:=∃k,∃h:k<xs.length,p xs[k]
theorem FQ.any{α:Type}{p:α->Prop}{xs:List α}{x:Int}(h:FQ p xs x):decide (0<=x)=decide (lE p xs):=by
 rw[decide_eq_decide];rcases h with⟨rfl,h⟩|⟨k,hk,rfl,h,_⟩
 ·exact⟨fun q=>by omega,fun⟨k,hk,q⟩=>absurd q (h k hk)⟩
 exact⟨fun _=>⟨k,hk,h⟩,fun _=>by omega⟩
theorem MJ(l:List Sup)(w:World):iJ Uw 151 #[] l (fun s=>16<s.levels.length) w:=by
 rintro W v k hk hg ⟨al,cl,rfl,hf,_⟩;unfold Fit at hf;show Calls Tryz.prog 151 #[_] W _;go_enter Tryz.func151,Tryz.ntmps151;go_wp2;all_goals go_ret
 all_goals exact⟨ai (by rw[Bool.eq_iff_iff];simp;omega),(gfl _).alloc _⟩
theorem DX(l:List Sup)(ao:Option Addr)(cap:Nat)(p:Sup->Prop)(w:World)(h:ag 5 bG w ao l)(hf:Fit l.length)(hp:iJ Uw 151 #[] l p w):
  Calls Tryz.prog 150 #[.slice ao l.length cap,.func (.func 151) #[] #[]] w (aN w (.bool (decide (lE p l)))):=by
 have H:=aa h;have HP:=aa hp;have HF:=aa hf;clear h hp hf;go_enter Tryz.func150,Tryz.ntmps150;go_wp2_with fail;refine(Ld l ao cap p _ H.out HF.out HP.out).mono ?_;rintro e w' ⟨x,rfl,hx,O,d,rfl⟩;have X:=aa hx;clear hx;go_wp2_with fail;go_ret;exact⟨ai X.out.any,(gfl _).xt _ _⟩
theorem tI(l:List Sup)(ao:Option Addr)(cap:Nat)(w:World)(h:ag 5 bG w ao l)(hf:Fit l.length):
  Calls Tryz.prog 98 #[.slice ao l.length cap] w (aN w (.int .i64 (chk l))):=by
 have HF:=aa hf;unfold Fit at hf;have H:=aa h;clear h;by_cases hb:16<l.length
 ·rw[BU (.inl hb)];go_enter Tryz.func98,Tryz.ntmps98;go_wp2;go_ret;exact⟨rfl,gfl _⟩
 go_enter Tryz.func98,Tryz.ntmps98;go_wp2_with fail;refine(DX l ao cap _ _ H.out HF.out (MJ l _)).mono ?_;rintro e w' ⟨rfl,O,d,rfl⟩;by_cases ha:lE (fun s:Sup=>16<s.levels.length) l
 ·rw[dtx ha];have HB:=aa (BU (l:=l) (.inr (by obtain⟨k,hk,q⟩:=ha;exact⟨k,hk,q⟩)));clear ha;go_wp2_with fail;go_ret;exact⟨bO HB.out.symm,(gfl _).xt _ _⟩
 rw[dfx ha];have NB:Hid (¬jI l):=aa (by rintro(h|⟨k,hk,q⟩);exact hb h;exact ha ⟨k,hk,q⟩);clear ha;obtain⟨w2,nA⟩:∃w2:World,xt w O d=w2:=⟨_,rfl⟩;have G2:Hid (Gr w w2):=aa (nA▸(gfl _).xt _ _);rw[nA];clear nA;go_wp2_with fail;go_loopw [14] (fun i wr=>∃k:Nat,k<=l.length/\i= .int .i64 k/\(∀j,j<k->ON l j)/\Gr w wr) (fun i _=>l.length-(intOf i).toNat);case atStart=>exact⟨0,Nat.zero_le _,rfl,fun j h=>absurd h (by omega),G2.out⟩
 case round=>
  obtain⟨k,hk,rfl,aH,hg⟩:=hrel;have HA:=aa aH;have HG:=aa hg;clear aH hg;by_cases aA:k<l.length
  ·obtain⟨b,o,rfl,⟨c0,_⟩,⟨al,cl,c1,c1l,jQ,cL⟩,⟨c2,_⟩,⟨c3,_⟩,c4⟩:=aX H.out HG.out k aA;unfold RB at c4;have CL:=aa cL;have F1:Hid (Fit l[k].levels.length):=aa (by unfold Fit at*;omega);clear cL jQ;go_wp2_with fail;refine(PI l[k] al cl k _ (by omega) F1.out (CL.out.giI ((gfl _).alloc _))).mono ?_;rintro e w' ⟨rfl,O,d,rfl⟩;by_cases hs:te l[k] k
   ·rw[dtx hs];have HS:=aa hs;clear hs;go_wp2_with fail;go_roundw;case rel=>
     refine⟨k+1,by omega,by go_num,fun j hj=>?_,gri HG.out⟩;by_cases e:j=k
     ·subst e;exact⟨aA,HS.out⟩
     exact HA.out j (by omega)
    case measure=>simp[intOf];omega
   rw[dfx hs];have HB:=aa (BY NB.out (fun q=>hs (by obtain⟨_,q⟩:=q k aA;exact q)));clear hs;go_wp2_with fail;go_ret;exact⟨bO HB.out.symm,gri HG.out⟩
  go_wp2;go_ret;exact⟨bO (Fm NB.out (fun j hj=>HA.out j (by omega))).symm,HG.out⟩
def F0(w:World)(v:Value)(s:Drw):Prop:=v= .agg #[.int .i64 s.supply,.int .i64 s.low,.int .i64 s.high,.int .i64 s.load]
theorem JQ(q0:Nat)(l:List Drw)(ao:Option Addr)(cap:Nat)(p:Drw->Prop)(w:World)(h:ag 4 cX w ao l)(hf:Fit l.length)(hp:iJ F0 134 #[.pointer (some ⟨q0,0,none⟩)] l p w):
  Calls Tryz.prog 171 #[.slice ao l.length cap,.func (.func 134) #[] #[.pointer (some ⟨q0,0,none⟩)]] w (mW p l w):=by
 unfold Fit at hf;have H:=aa h;have HP:=aa hp;clear h hp;go_enter Tryz.func171,Tryz.ntmps171;go_wp2;go_loopw [8] (fun i wr=>∃k:Nat,k<=l.length/\i= .int .i64 k/\(∀j (hj:j<k) (lA:j<l.length),¬p l[j])/\Gr w wr) (fun i _=>l.length-(intOf i).toNat);case atStart=>exact⟨0,Nat.zero_le _,rfl,fun j h=>absurd h (by omega),gfl _⟩
 case round=>
  obtain⟨k,hk,rfl,aH,hg⟩:=hrel;have HA:=aa aH;have HG:=aa hg;clear aH hg;by_cases aA:k<l.length
  ·obtain⟨b,o,rfl,⟨c0,_⟩,⟨c1,_⟩,⟨c2,_⟩,⟨c3,_⟩⟩:=bP H.out HG.out k aA;have cr:=HP.out wr (.agg #[.int .i64 l[k].supply,.int .i64 l[k].low,.int .i64 l[k].high,.int .i64 l[k].load]) k aA HG.out rfl;by_cases hq:p l[k]
   ·rw[dtx hq] at cr;have Q:=aa hq;clear hq;go_wp2_with fail;refine cr.mono ?_;rintro e w' ⟨rfl,O,d,rfl⟩;go_wp2_with fail;go_ret;exact⟨_,rfl,.inr ⟨k,aA,rfl,Q.out,fun j hj=>HA.out j hj (by omega)⟩,HG.out.xt _ _⟩
   rw[dfx hq] at cr;have Q:=aa hq;clear hq;go_wp2_with fail;refine cr.mono ?_;rintro e w' ⟨rfl,O,d,rfl⟩;go_wp2_with fail;go_roundw;case rel=>
    refine⟨k+1,by omega,by go_num,fun j hj lA=>?_,HG.out.xt _ _⟩;by_cases e:j=k
    ·subst e;exact Q.out
    exact HA.out j (by omega) lA
   case measure=>simp[intOf];omega
  go_wp2;go_ret;exact⟨_,rfl,.inl ⟨rfl,fun j hj=>HA.out j (by omega) hj⟩,HG.out⟩
theorem Fr(q0:Nat)(l:List Drw)(ao:Option Addr)(cap:Nat)(p:Drw->Prop)(w:World)(h:ag 4 cX w ao l)(hf:Fit l.length)(hp:iJ F0 134 #[.pointer (some ⟨q0,0,none⟩)] l p w):
  Calls Tryz.prog 133 #[.slice ao l.length cap,.func (.func 134) #[] #[.pointer (some ⟨q0,0,none⟩)]] w (aN w (.bool (decide (lE p l)))):=by
 have H:=aa h;have HP:=aa hp;have HF:=aa hf;clear h hp hf;go_enter Tryz.func133,Tryz.ntmps133;go_wp2_with fail;refine(JQ q0 l ao cap p _ H.out HF.out HP.out).mono ?_;rintro e w' ⟨x,rfl,hx,O,d,rfl⟩;have X:=aa hx;clear hx;go_wp2_with fail;go_ret;exact⟨ai X.out.any,(gfl _).xt _ _⟩
theorem KH(q0 q1:Nat)(l:List Drw)(ao:Option Addr)(cap:Nat)(p:Drw->Prop)(w:World)(h:ag 4 cX w ao l)(hf:Fit l.length)(hp:iJ F0 161 #[.pointer (some ⟨q0,0,none⟩),.pointer (some ⟨q1,0,none⟩)] l p w):
  Calls Tryz.prog 171 #[.slice ao l.length cap,.func (.func 161) #[] #[.pointer (some ⟨q0,0,none⟩),.pointer (some ⟨q1,0,none⟩)]] w (mW p l w):=by
 unfold Fit at hf;have H:=aa h;have HP:=aa hp;clear h hp;go_enter Tryz.func171,Tryz.ntmps171;go_wp2;go_loopw [8] (fun i wr=>∃k:Nat,k<=l.length/\i= .int .i64 k/\(∀j (hj:j<k) (lA:j<l.length),¬p l[j])/\Gr w wr) (fun i _=>l.length-(intOf i).toNat);case atStart=>exact⟨0,Nat.zero_le _,rfl,fun j h=>absurd h (by omega),gfl _⟩
 case round=>
  obtain⟨k,hk,rfl,aH,hg⟩:=hrel;have HA:=aa aH;have HG:=aa hg;clear aH hg;by_cases aA:k<l.length
  ·obtain⟨b,o,rfl,⟨c0,_⟩,⟨c1,_⟩,⟨c2,_⟩,⟨c3,_⟩⟩:=bP H.out HG.out k aA;have cr:=HP.out wr (.agg #[.int .i64 l[k].supply,.int .i64 l[k].low,.int .i64 l[k].high,.int .i64 l[k].load]) k aA HG.out rfl;by_cases hq:p l[k]
   ·rw[dtx hq] at cr;have Q:=aa hq;clear hq;go_wp2_with fail;refine cr.mono ?_;rintro e w' ⟨rfl,O,d,rfl⟩;go_wp2_with fail;go_ret;exact⟨_,rfl,.inr ⟨k,aA,rfl,Q.out,fun j hj=>HA.out j hj (by omega)⟩,HG.out.xt _ _⟩
   rw[dfx hq] at cr;have Q:=aa hq;clear hq;go_wp2_with fail;refine cr.mono ?_;rintro e w' ⟨rfl,O,d,rfl⟩;go_wp2_with fail;go_roundw;case rel=>
    refine⟨k+1,by omega,by go_num,fun j hj lA=>?_,HG.out.xt _ _⟩;by_cases e:j=k
    ·subst e;exact Q.out
    exact HA.out j (by omega) lA
   case measure=>simp[intOf];omega
  go_wp2;go_ret;exact⟨_,rfl,.inl ⟨rfl,fun j hj=>HA.out j (by omega) hj⟩,HG.out⟩
theorem wS(q0 q1:Nat)(l:List Drw)(ao:Option Addr)(cap:Nat)(p:Drw->Prop)(w:World)(h:ag 4 cX w ao l)(hf:Fit l.length)(hp:iJ F0 161 #[.pointer (some ⟨q0,0,none⟩),.pointer (some ⟨q1,0,none⟩)] l p w):
  Calls Tryz.prog 133 #[.slice ao l.length cap,.func (.func 161) #[] #[.pointer (some ⟨q0,0,none⟩),.pointer (some ⟨q1,0,none⟩)]] w (aN w (.bool (decide (lE p l)))):=by
 have H:=aa h;have HP:=aa hp;have HF:=aa hf;clear h hp hf;go_enter Tryz.func133,Tryz.ntmps133;go_wp2_with fail;refine(KH q0 q1 l ao cap p _ H.out HF.out HP.out).mono ?_;rintro e w' ⟨x,rfl,hx,O,d,rfl⟩;have X:=aa hx;clear hx;go_wp2_with fail;go_ret;exact⟨ai X.out.any,(gfl _).xt _ _⟩
theorem Pi(l:List Sup)(d:List Drw)(q:Nat)(ao:Option Addr)(cap:Nat)(w:World)(hc:w.cell? ⟨q,0,none⟩=some (.slice ao l.length cap))(hf:Fit l.length):
  iJ F0 134 #[.pointer (some ⟨q,0,none⟩)] d (fun x=>¬fq l x) w:=by
 rintro W v k hk hg rfl;unfold Fit at hf;have uS:=aB hg hc;have hh:=ae uS;clear hc hg;show Calls Tryz.prog 134 #[_,_] W _;generalize d[k]=x;by_cases hx:fq l x
 ·have HX:=aa hx;unfold fq at hx;go_enter Tryz.func134,Tryz.ntmps134;go_wp2_with (go_at_call 135;refine(jY _ _ _ _).mono ?_;rintro e w' ⟨rfl,rfl⟩);all_goals first
   |(go_ret;exact⟨ai (cj (fun q=>q HX.out)),(gfl _).alloc _⟩)
   |skip
 have HX:=aa hx;unfold fq at hx;go_enter Tryz.func134,Tryz.ntmps134;go_wp2_with (go_at_call 135;refine(jY _ _ _ _).mono ?_;rintro e w' ⟨rfl,rfl⟩);all_goals first
  |(go_ret;exact⟨ai (mU HX.out),(gfl _).alloc _⟩)
  |(go_ret;exact⟨ai (Eq.trans (b:=true) (by simp;omega) (mU HX.out)),(gfl _).alloc _⟩)
theorem Wf{l:List Sup}{d:List Drw}(h:¬lE (fun x=>¬fq l x) d)(k:Nat)(hk:k<d.length):fq l d[k]:=by
 rcases Classical.em (fq l d[k]) with q|q
 ·exact q
 exact absurd ⟨k,hk,q⟩ h
theorem qd(l:List Sup)(d:List Drw)(ao a1:Option Addr)(cap c1:Nat)(w:World)(h:ag 5 bG w ao l)(hf:Fit l.length)(h1:ag 4 cX w a1 d)(f1:Fit d.length):
  Calls Tryz.prog 69 #[.slice ao l.length cap,.slice a1 d.length c1] w (aN w (.bool (decide (b7 l d)))):=by
 have H:=aa h;have H1:=aa h1;have HF:=aa hf;have HF1:=aa f1;unfold Fit at hf f1;clear h h1;go_enter Tryz.func69,Tryz.ntmps69;go_wp2_with fail;refine(tI l ao cap _ (aX H.out ((gfl _).alloc _)) HF.out).mono ?_;rintro e w' ⟨rfl,O,dd,rfl⟩;by_cases hc:chk l=0
 ·rw[hc];have HC:=aa hc;clear hc;by_cases hl:d.length<=32
  ·go_wp2_with fail;refine(Fr w.heap.size d a1 c1 _ _ (bP H1.out (((gfl _).alloc _).xt _ _)) HF1.out (Pi l d w.heap.size ao cap _ (by simp[go_sem]) HF.out)).mono ?_;rintro e w' ⟨rfl,O2,dd2,rfl⟩;by_cases ha:lE (fun x=>¬fq l x) d
   ·rw[dtx ha];have HA:=aa ha;clear ha;go_wp2_with fail;go_ret;refine⟨ai (cj ?_),grr⟩;obtain⟨k,hk,q⟩:=HA.out;exact fun hd=>q (hd.2.2 k hk)
   rw[dfx ha];have HA:=aa ha;clear ha;go_wp2_with fail;go_ret;exact⟨ai (mU ⟨HC.out,hl,Wf HA.out⟩),grr⟩
  go_wp2_with fail;go_ret;exact⟨ai (cj (fun hd=>by have:=hd.2.1;omega)),grr⟩
 have vz:(chk l==0)=false:=by simpa using hc
 have HC:=aa hc;clear hc;go_wp2_with fail;go_ret;exact⟨ai (cj (fun hd=>HC.out hd.1)),grr⟩
theorem tz(l:List Sup)(r:Rls)(ao a1 a2:Option Addr)(cap c1 c2:Nat)(w:World)(h:ag 5 bG w ao l)(hf:Fit l.length)(h1:ag 1 RB w a1 r.on)(h2:ag 1 RI w a2 r.level)(f1:Fit r.on.length)(f2:Fit r.level.length):
  Calls Tryz.prog 111 #[.slice ao l.length cap,.agg #[.slice a1 r.on.length c1,.slice a2 r.level.length c2]] w (aN w (.bool (decide (bL l r)))):=by
 have H:=aa h;have H2:=aa h2;have HF:=aa hf;unfold Fit at hf f1 f2;clear h h1 h2;go_enter Tryz.func111,Tryz.ntmps111;go_wp2_with fail;refine(tI l ao cap _ (aX H.out ((gfl _).alloc _)) HF.out).mono ?_;rintro e w' ⟨rfl,O,dd,rfl⟩;by_cases hc:chk l=0
 ·rw[hc];have HC:=aa hc;clear hc;by_cases e1:r.on.length=l.length
  ·by_cases e2:r.level.length=l.length
   ·have E2:=aa e2;have E1:=aa e1;rw[e1,e2];go_wp2_with fail;go_loopw [29] (fun i wr=>∃k:Nat,k<=l.length/\i= .int .i64 k/\(∀j (hj:j<k) (h:j<l.length) (h':j<r.level.length),0<=r.level[j]/\r.level[j]<=(l[j].levels.length:Int)-1)/\Gr w wr) (fun i _=>l.length-(intOf i).toNat);case atStart=>exact⟨0,Nat.zero_le _,rfl,fun j h=>absurd h (by omega),grr⟩
    case round=>
     obtain⟨k,hk,rfl,aH,hg⟩:=hrel;have HA:=aa aH;have HG:=aa hg;clear aH hg;by_cases aA:k<l.length
     ·have tT:k<r.level.length:=(by omega);obtain⟨b,o,rfl,_,⟨al,cl,q1,q1l,q1f,cL⟩,_⟩:=aX H.out HG.out k aA;obtain⟨bl,ol,rfl,q2,q2w⟩:=(H2.out.giI HG.out).one k tT;unfold Fit at q1f;clear cL;by_cases hx:0<=r.level[k]/\r.level[k]<=(l[k].levels.length:Int)-1
      ·have HX:=aa hx;go_wp2_with (go_at_call 135;refine(jY _ _ _ _).mono ?_;rintro e w' ⟨rfl,rfl⟩);go_roundw;case rel=>
        refine⟨k+1,by omega,by go_num,fun j hj lA qH=>?_,HG.out⟩;by_cases e:j=k
        ·subst e;exact HX.out
        exact HA.out j (by omega) lA qH
       case measure=>simp[intOf];omega
      have HX:=aa hx;go_wp2_with (go_at_call 135;refine(jY _ _ _ _).mono ?_;rintro e w' ⟨rfl,rfl⟩);all_goals first
       |(go_ret;exact⟨ai (cj (fun hd=>HX.out (hd.2.2.2 k aA tT))),HG.out⟩)
       |(exfalso;(try simp only[Bool.not_eq_eq_eq_not,Bool.not_false,Bool.not_true,decide_eq_true_eq,decide_eq_false_iff_not,Bool.and_eq_true,Bool.and_eq_false_iff] at*);omega)
     go_wp2_with fail;go_ret;exact⟨ai (mU ⟨HC.out,E1.out,E2.out,fun j hj qH=>HA.out j (by omega) hj qH⟩),HG.out⟩
   have e2b:((r.level.length:Int) !=l.length)=true:=by simp;omega
   go_wp2_with fail;go_ret;exact⟨ai (cj (fun hd=>e2 hd.2.2.1)),grr⟩
  have e2b:((r.on.length:Int) !=l.length)=true:=by simp;omega
  go_wp2_with fail;go_ret;exact⟨ai (cj (fun hd=>e1 hd.2.1)),grr⟩
 have vz:(chk l !=0)=true:=by simpa using hc
 have HC:=aa hc;clear hc;go_wp2_with fail;go_ret;exact⟨ai (cj (fun hd=>HC.out hd.1)),grr⟩
end
section
open Go.RowKit
section
variable {P:Program} {ops:Array Oper} {md:Region.Mode} {C:World->Prop} {n:Nat} {L:Array Bool->Act->Prop} {lp m:Nat}
theorem D8{o:Oper}{a:Act}{K:Act->Prop}{K':Act->World->Prop}{Q':Exit->Act->World->Prop}{w:World}(hd:∀c,o.op≠ .defer c)(hw:C w)(h:∀a w',C w'->K a->K' a w')
  (hh:o.quiet P a C K):o.wpIn (Fence.wide.inRound lp) m P a w K' Q':=by
 obtain⟨v,h1,h2⟩:=hh;have h3:=h1 w hw;unfold Oper.quietAt at h3;unfold Oper.wpIn;refine⟨fun _ _=>trivial,?_⟩;rw[Fence.inRound_round,Oper.semAt_some _ _ _ hd];generalize (execOp a.eval o).run P w=r at*;cases r with
 |ok x w'=>
  cases x<;>simp only[Oper.quietUpon] at h3<;>simp only[Oper.uponIn]
  case value u=>obtain⟨e1,e2⟩:=h3;rw[e1,e2];exact h _ _ hw h2
  case skip=>obtain⟨e1,e2⟩:=h3;rw[e1,<-e2];exact h _ _ hw h2
  case enter f args=>obtain⟨e1,hc⟩:=h3;rw[e1];exact And.intro (fun q=>by cases q) (CallsIn.inRound lp (callsIn_wide.2 (Calls.mono hc (fun e w'' he=>by obtain⟨he,hw''⟩:=he;subst he;exact h _ _ hw'' h2))))
 |halt x w'=>simp only[Oper.quietUpon] at h3
theorem II{i:Nat}{a:Act}{K:Act->Prop}{K':Act->World->Prop}{Q':Exit->Act->World->Prop}{w:World}(hd:∀(o:Oper) c,ops[i]?=some o->o.op≠ .defer c)(hC:C w)(h:∀a w',C w'->K a->K' a w')
  (hh:qOp P ops C i K a):wpOpIn (Fence.wide.inRound lp) m P ops Q' i K' a w:=by
 unfold qOp at hh;unfold wpOpIn;split
 ·rename_i ho;simp only[ho] at hh;exact h _ _ hC hh
 rename_i o ho;simp only[ho] at hh;split
 ·rename_i hw;simp only[hw,if_true] at hh;exact D8 (fun c=>hd o c ho) hC h hh
 rename_i hw;simp only[hw] at hh;exact⟨fun _ _=>trivial,h _ _ hC hh⟩
theorem Ge{g:Nat}{Q':Exit->Act->World->Prop}(hd:∀(i:Nat) (o:Oper) c,ops[i]?=some o->o.op≠ .defer c)(hL:∀done a w,C w->L done a->wpAnyIn (Fence.wide.inRound lp) m P md ops Q' g done a w)(f:Nat):
  ∀(done:Array Bool) (a:Act) (w:World),C w->BI P md ops C n L f done a->wpAnyIn (Fence.wide.inRound lp) m P md ops Q' (f+g) done a w:=by
 induction f with
 |zero=>intro done a w hw h;rw[Nat.zero_add];exact hL _ _ _ hw h
 |succ f ih=>
  intro done a w hw h;obtain⟨⟨i0,AN⟩,aH⟩:=h;have e:f+1+g=(f+g)+1:=by omega
  rw[e];refine⟨fun h0=>(by rw[h0] at AN;cases AN),fun i hi=>?_⟩;exact II (hd i) hw (fun a' w' hw' h'=>ih _ a' w' hw' h') (aH i hi).2
theorem xO{F:Fence}{Q':Exit->Act->World->Prop}:∀(l:List Oper) (k:Nat) (listed:Array Bool) (a:Act) (w:World),(∀j,l[j]?=ops[k+j]?)->
  Region.seqB md ops l.length k listed=true->wpListIn F m P ops Q' l a w->wpAnyIn F m P md ops Q' l.length listed a w
 | [],_,_,_,_,_,hB,h=>⟨by simpa [Region.seqB] using hB,h⟩
 |o::l,k,listed,a,w,hl,hB,h=>by
  have h0:ops[k]?=some o:=by simpa using (hl 0).symm
  simp only[List.length_cons,Region.seqB,Bool.and_eq_true,decide_eq_true_eq] at hB;refine⟨fun h1=>(by rw[hB.1] at h1;cases h1),fun i hi=>?_⟩;rw[hB.1] at hi;have hik:i=k:=by simpa using hi
  subst hik;have hw:wpOpIn F m P ops Q' i (wpListIn F m P ops Q' l) a w:=by unfold wpOpIn;simp only[h0];exact h
  exact wpOpIn_mono (fun a' w' h'=>xO l (i+1) _ a' w' (fun j=>by have:=hl (j+1);simpa [Nat.add_assoc,Nat.add_comm 1 j] using this) hB.2 h') hw
def xP(l:List Oper):Bool:=l.all fun o=>match o.op with| .defer _=>false|_=>true
theorem AT{l:List Oper}(h:xP l=true)(i:Nat)(o:Oper)(c:Call)(ho:l.toArray[i]?=some o):o.op≠ .defer c:=by
 intro e;have hm:o∈l:=by
  have:l[i]?=some o:=by simpa using ho
  exact List.mem_of_getElem? this
 have:=List.all_eq_true.1 h o hm;rw[e] at this;cases this
theorem qI{id:Nat}{Q:Exit->Act->World->Prop}{a:Act}{w:World}{l:List Oper}(n:Nat)(hm:P.follows .mixedOrders=true)(hB:Region.lexTailB .any l.toArray n=true)(hd:xP l=true)(hC:C w.drew)
  (h:wpQuiet P l.toArray C (fun a'=>∀w',C w'->wpListIn (Fence.wide.inRound lp) m P l.toArray Q (l.drop n) a' w') (l.take n) a):(Code.region id l.toArray true).wpIn (Fence.wide.inRound lp) m P Q a w:=by
 simp only[Region.lexTailB,Bool.and_eq_true,decide_eq_true_eq] at hB;obtain⟨⟨⟨⟨zT,hn⟩,hs⟩,hc⟩,hlex⟩:=hB;have hnl:n<l.length:=by simpa using hn
 have e1:(l.take n).length=n:=by simp;omega
 have e2:(l.drop n).length=l.toArray.size-n:=by simp
 have inv0:HeadInv .any l.toArray n (Array.replicate l.toArray.size false):=
  ⟨by simp,fun j oj _ hj=>(by rw[getD_replicate_false] at hj;cases hj),fun t _ ht=>getD_in (by simpa using ht) (getD_replicate_false _ _)⟩
 have H:=Ic (P:=P) (C:=C) (md:= .any) (g:=l.toArray.size-n) zT hs hc hn (l.take n) 0 _ a
  (fun j hj=>by rw[e1] at hj;simp[hj]) (by omega) inv0 (by rw[e1];exact hlex) h
 rw[e1] at H;refine wpIn_region_any hm ?_;have:=Ge (Q':=Q) (lp:=lp) (m:=m) (g:=l.toArray.size-n) (AT hd) (fun d b w' hw' hL=>by have:=xO (F:=Fence.wide.inRound lp) (m:=m) (md:= .any) (Q':=Q) (l.drop n) n d b w' (fun j=>by simp[List.getElem?_drop]) (by rw[e2];exact hL.1) (hL.2 w' hw');rwa [e2] at this) n _ a w.drew hC H
 rw[show n+(l.toArray.size-n)=l.toArray.size by omega] at this;exact this
theorem eP{id:Nat}{Q:Exit->Act->World->Prop}{a:Act}{w:World}{l:List Oper}(n:Nat)(hm:P.follows .mixedOrders=true)(hB:Region.lexTailB .any l.toArray n=true)(hd:xP l=true)
  (h:wpQuiet P l.toArray (fun w'=>w'=w.drew) (fun a'=>wpListIn (Fence.wide.inRound lp) m P l.toArray Q (l.drop n) a' w.drew) (l.take n) a):(Code.region id l.toArray true).wpIn (Fence.wide.inRound lp) m P Q a w:=
 qI (C:=fun w'=>w'=w.drew) n hm hB hd rfl (by
  have:(fun a'=>∀w',w'=w.drew->wpListIn (Fence.wide.inRound lp) m P l.toArray Q (l.drop n) a' w')=(fun a'=>wpListIn (Fence.wide.inRound lp) m P l.toArray Q (l.drop n) a' w.drew):=by funext a';exact propext ⟨fun q=>q _ rfl,fun q w' e=>e▸q⟩
  rw[this];exact h)
end
end
section
open Go.RowKit
open Classical
noncomputable def zS(d:List Drw)(i:Nat):Int:=d.foldl (fun m x=>if x.supply=(i:Int) then(if m<x.low then x.low else m) else m) 0
noncomputable def eB(n:Nat)(d:List Drw):List Int:=(List.range n).map (zS d)
theorem Ph(n:Nat)(d:List Drw):(eB n d).length=n:=by simp[eB]
theorem Em(n:Nat):eB n []=List.replicate n 0:=by refine List.ext_getElem (by simp[eB]) fun i h1 h2=>?_;simp[eB,zS]
theorem MW{n:Nat}{d:List Drw}{x:Drw}{s:Nat}(hs:x.supply=(s:Int))(hn:s<(eB n d).length):eB n (d++ [x])=(eB n d).set s (if(eB n d)[s]<x.low then x.low else(eB n d)[s]):=by
 refine List.ext_getElem (by simp[eB]) fun i h1 h2=>?_;rw[List.getElem_set];simp only[eB,List.getElem_map,List.getElem_range,zS,List.foldl_append,List.foldl_cons,List.foldl_nil,hs];by_cases e:s=i
 ·subst e;simp
 have:¬((s:Int)=(i:Int)):=by omega
 simp[e,this]
theorem Ct{n:Nat}{d:List Drw}{m s:Nat}(hm:m<d.length)(hs:d[m].supply=(s:Int))(hn:s<(eB n (d.take m)).length):eB n (d.take (m+1))=(eB n (d.take m)).set s (if(eB n (d.take m))[s]<d[m].low then d[m].low else(eB n (d.take m))[s]):=by rw[List.take_succ_eq_append_getElem hm];exact MW hs hn
noncomputable def iq(l:List Sup)(d:List Drw)(i:Nat)(s:List Int×List Int):Option (List Int×List Int):=
 if h:i<l.length then
  if fF l d i then
   (if lvI l[i].levels (s.2.getD i 0)<0 then none else
    some (s.1.set i (lvI l[i].levels (s.2.getD i 0)),
     if 0<=l[i].parent/\s.2.getD l[i].parent.toNat 0<l[i].levels.getD (lvI l[i].levels (s.2.getD i 0)).toNat 0+l[i].dropout then s.2.set l[i].parent.toNat (l[i].levels.getD (lvI l[i].levels (s.2.getD i 0)).toNat 0+l[i].dropout) else s.2))
  else some s
 else some s
noncomputable def ix(l:List Sup)(d:List Drw):Nat->Option (List Int×List Int)
 |0=>some (List.replicate l.length 0,eB l.length d)
 |m+1=>(ix l d m).bind (iq l d (l.length-1-m))
theorem Ey{l:List Sup}{d:List Drw}{m:Nat}(h:ix l d m=none):∀k,m<=k->ix l d k=none:=by
 intro k hk;induction k with
 |zero=>
  have:m=0:=by omega
  subst this;exact h
 |succ k ih=>
  rcases Nat.lt_or_ge k m with q|q
  ·have:m=k+1:=by omega
   rw[<-this];exact h
  simp[ix,ih q]
noncomputable def lM(l:List Sup)(d:List Drw):Option Rls:=
 match ix l d l.length with
 |some s=>if my l ⟨cH l d,s.1⟩ d then some ⟨cH l d,s.1⟩ else none
 |none=>none
noncomputable def lc(l:List Sup)(d:List Drw):Int:=if beg l d=0 then(if(lM l d).isSome then 0 else 9) else beg l d
noncomputable def lO(l:List Sup)(d:List Drw):Rls:=if beg l d=0 then(lM l d).getD m7 else m7
theorem yW{l:List Sup}{d:List Drw}{i:Nat}{s:List Int×List Int}(hi:i<l.length)(h:ix l d (l.length-(i+1))=some s):ix l d (l.length-i)=iq l d i s:=by rw[show l.length-i=(l.length-(i+1))+1 by omega];simp only[ix,h,Option.bind_some];rw[show l.length-1-(l.length-(i+1))=i by omega]
theorem vH{l:List Sup}{d:List Drw}{i:Nat}{s:List Int×List Int}(hu:¬fF l d i):iq l d i s=some s:=by unfold iq;simp[hu]
theorem zX{l:List Sup}{d:List Drw}{i:Nat}{s:List Int×List Int}(hi:i<l.length)(hu:fF l d i)(h:lvI l[i].levels (s.2.getD i 0)<0):iq l d i s=none:=by unfold iq;rw[dif_pos hi,if_pos hu,if_pos h]
theorem rI{l:List Sup}{d:List Drw}{i:Nat}{s:List Int×List Int}{k:Int}(hi:i<l.length)(hu:fF l d i)(hk:lvI l[i].levels (s.2.getD i 0)=k)(k0:0<=k)(hp:l[i].parent<0):iq l d i s=some (s.1.set i k,s.2):=by unfold iq;rw[dif_pos hi,if_pos hu,hk,if_neg (by omega),if_neg (by omega)]
theorem uy{l:List Sup}{d:List Drw}{i p:Nat}{s:List Int×List Int}{k v:Int}(hi:i<l.length)(hu:fF l d i)(hk:lvI l[i].levels (s.2.getD i 0)=k)(k0:0<=k)(hp:l[i].parent=(p:Int))(dw:p<s.2.length)(hv:v=l[i].levels.getD k.toNat 0+l[i].dropout):
  iq l d i s=some (s.1.set i k,s.2.set p (if s.2[p]<v then v else s.2[p])):=by
 unfold iq;have e:s.2.getD p 0=s.2[p]:=by simp[List.getD_eq_getElem?_getD,dw]
 rw[dif_pos hi,if_pos hu,hk,if_neg (by omega),hp,<-hv];simp only[Int.toNat_natCast,e];by_cases h:s.2[p]<v
 ·rw[if_pos ⟨by omega,h⟩,if_pos h]
 rw[if_neg (fun q=>h q.2),if_neg h,kG _ _ dw _ rfl]
theorem yA{l:List Sup}{d:List Drw}(h:beg l d=0)(k:lM l d=none):lc l d=9/\lO l d=m7:=by unfold lc lO;rw[if_pos h,if_pos h,k];exact⟨rfl,rfl⟩
theorem xi{l:List Sup}{d:List Drw}{r:Rls}(h:beg l d=0)(k:lM l d=some r):lc l d=0/\lO l d=r:=by unfold lc lO;rw[if_pos h,if_pos h,k];exact⟨rfl,rfl⟩
theorem xC(x lo hi:Int)(w:World):
  Calls Tryz.prog 101 #[.int .i64 x,.int .i64 lo,.int .i64 hi] w fun e w'=>e= .returned (.bool (decide (lo<=x)&&decide (x<=hi)))/\w=w':=by
 go_enter Tryz.func101,Tryz.ntmps101;go_wp2;all_goals go_ret
 all_goals exact⟨ai (by rw[Bool.eq_iff_iff];simp;try omega),rfl⟩
theorem gG{x lo hi:Int}{w:World}(h:lo<=x/\x<=hi):Calls Tryz.prog 101 #[.int .i64 x,.int .i64 lo,.int .i64 hi] w fun e w'=>e= .returned (.bool true)/\w=w':=
 (xC x lo hi w).mono fun e w' q=>⟨by rw[q.1];simp[h],q.2⟩
theorem jW{x lo hi:Int}{w:World}(h:¬(lo<=x/\x<=hi)):Calls Tryz.prog 101 #[.int .i64 x,.int .i64 lo,.int .i64 hi] w fun e w'=>e= .returned (.bool false)/\w=w':=
 (xC x lo hi w).mono fun e w' q=>⟨by rw[q.1,<-Bool.decide_and,dfx h],q.2⟩
theorem tB{p:Prop}[Decidable p](h:p):true=decide p:=(dtx h).symm
theorem bC{p:Prop}[Decidable p](h:¬p):false=decide p:=(dfx h).symm
theorem wQ{p:Prop}{i:Decidable p}(h:p):true= @decide p i:=(dtx h).symm
theorem DG{p:Prop}{i:Decidable p}(h:¬p):false= @decide p i:=(dfx h).symm
theorem yZ(ps:List Pnt)(a:Option Addr)(c:Nat)(w:World)(h:ag 2 qT w a ps)(hf:Fit ps.length):
  Calls Tryz.prog 66 #[.slice a ps.length c] w (aN w (.bool (decide (fA ps)))):=by
 unfold Fit at hf;have H:=aa h;clear h;go_enter Tryz.func66,Tryz.ntmps66;go_wp2;go_loopw [7] (fun i wr=>∃m:Nat,m<=ps.length/\i= .int .i64 m/\(∀j,j<m->AK ps j)/\Gr w wr) (fun i _=>ps.length-(intOf i).toNat);case atStart=>exact⟨0,Nat.zero_le _,rfl,fun j h=>absurd h (by omega),gfl _⟩
 case round=>
  obtain⟨m,hm,rfl,hok,hg⟩:=hrel;have HOK:=aa hok;have HG:=aa hg;clear hok hg;by_cases aA:m<ps.length
  ·obtain⟨b,o,rfl,⟨c0,w0⟩,⟨c1,w1⟩⟩:=kK H.out HG.out m aA;clear w0 w1;by_cases jx:0<m
   ·obtain⟨b',o',e,⟨d0,u0⟩,⟨d1,u1⟩⟩:=kK H.out HG.out (m-1) (by omega);cases e
    clear u0 u1;obtain⟨rm,kQ⟩:∃x,ps[m].rate=x:=⟨_,rfl⟩;obtain⟨vm,lK⟩:∃x,ps[m].mv=x:=⟨_,rfl⟩;obtain⟨rl,vI⟩:∃x,(ps[m-1]'(by omega)).rate=x:=⟨_,rfl⟩;obtain⟨vl,mH⟩:∃x,(ps[m-1]'(by omega)).mv=x:=⟨_,rfl⟩;rw[kQ] at c0;rw[lK] at c1;rw[vI] at d0;rw[mH] at d1;have hh:=ae d0;have vG:(0:Int)<m:=(by omega);by_cases a1:1<=rm/\rm<=4000000000
    ·by_cases a2:1<=vm/\vm<=5000
     ·by_cases a3:rl<rm
      ·have b3:decide (rm<=rl)=false:=dfx (by omega);by_cases a4:vl<=vm
       ·have b4:decide (vm<vl)=false:=dfx (by omega);have OKN:Hid (∀j,j<m+1->AK ps j):=aa (fun j hj=>by(by_cases e:j=m);(·subst e;exact⟨aA,by omega,by omega,by omega,by omega,fun _=>by omega⟩);(·exact HOK.out j (by omega)));clear kQ lK vI mH;go_wp2_with fail;refine ar (by kernel_rfl) (by kernel_rfl) ?_;repeat(go_big_quiet_step (first|(go_at_call 101;exact eA (gG (by omega)))|(go_at_call 101;exact eA (jW (by omega)))))
        refine wpQuiet_nil ?_;rintro _ ⟨⟨O,d9⟩,rfl⟩;go_wp2_with fail;go_roundw;case rel=>exact⟨m+1,by omega,by go_num,OKN.out,(HG.out.alloc _).xt _ _⟩
        case measure=>simp[intOf];omega
       have b4:decide (vm<vl)=true:=dtx (by omega);have D:=aa (show false=decide (fA ps) from bC (gJ aA (by rintro⟨_,q1,q2,q3,q4,q5⟩;have q6:=q5 jx;omega)));clear kQ lK vI mH;go_wp2_with fail;refine ar (by kernel_rfl) (by kernel_rfl) ?_;repeat(go_big_quiet_step (first|(go_at_call 101;exact eA (gG (by omega)))|(go_at_call 101;exact eA (jW (by omega)))))
       refine wpQuiet_nil ?_;rintro _ ⟨⟨O,d9⟩,rfl⟩;go_wp2_with fail;go_ret;exact⟨ai D.out,(HG.out.alloc _).xt _ _⟩
      have b3:decide (rm<=rl)=true:=dtx (by omega);have D:=aa (show false=decide (fA ps) from bC (gJ aA (by rintro⟨_,q1,q2,q3,q4,q5⟩;have q6:=q5 jx;omega)));clear kQ lK vI mH;go_wp2_with fail;refine ar (by kernel_rfl) (by kernel_rfl) ?_;repeat(go_big_quiet_step (first|(go_at_call 101;exact eA (gG (by omega)))|(go_at_call 101;exact eA (jW (by omega)))))
      refine wpQuiet_nil ?_;rintro _ ⟨⟨O,d9⟩,rfl⟩;go_wp2_with fail;go_ret;exact⟨ai D.out,(HG.out.alloc _).xt _ _⟩
     have D:=aa (show false=decide (fA ps) from bC (gJ aA (by rintro⟨_,q1,q2,q3,q4,q5⟩;omega)));clear kQ lK vI mH;go_wp2_with fail;refine ar (by kernel_rfl) (by kernel_rfl) ?_;repeat(go_big_quiet_step (first|(go_at_call 101;exact eA (gG (by omega)))|(go_at_call 101;exact eA (jW (by omega)))))
     refine wpQuiet_nil ?_;rintro _ ⟨⟨O,d9⟩,rfl⟩;go_wp2_with fail;go_ret;exact⟨ai D.out,(HG.out.alloc _).xt _ _⟩
    have D:=aa (show false=decide (fA ps) from bC (gJ aA (by rintro⟨_,q1,q2,q3,q4,q5⟩;omega)));clear kQ lK vI mH;go_wp2_with fail;refine ar (by kernel_rfl) (by kernel_rfl) ?_;repeat(go_big_quiet_step (first|(go_at_call 101;exact eA (gG (by omega)))|(go_at_call 101;exact eA (jW (by omega)))))
    refine wpQuiet_nil ?_;rintro _ ⟨⟨O,d9⟩,rfl⟩;go_wp2_with fail;go_ret;exact⟨ai D.out,(HG.out.alloc _).xt _ _⟩
   obtain⟨rm,kQ⟩:∃x,ps[m].rate=x:=⟨_,rfl⟩;obtain⟨vm,lK⟩:∃x,ps[m].mv=x:=⟨_,rfl⟩;rw[kQ] at c0;rw[lK] at c1;have vG:¬(0:Int)<m:=by omega
   by_cases a1:1<=rm/\rm<=4000000000
   ·by_cases a2:1<=vm/\vm<=5000
    ·have OKN:Hid (∀j,j<m+1->AK ps j):=aa (fun j hj=>by(by_cases e:j=m);(·subst e;exact⟨aA,by omega,by omega,by omega,by omega,fun q=>absurd q jx⟩);(·exact HOK.out j (by omega)));clear kQ lK;go_wp2_with fail;refine ar (by kernel_rfl) (by kernel_rfl) ?_;repeat(go_big_quiet_step (first|(go_at_call 101;exact eA (gG (by omega)))|(go_at_call 101;exact eA (jW (by omega)))))
     refine wpQuiet_nil ?_;rintro _ ⟨⟨O,d9⟩,rfl⟩;go_wp2_with fail;go_roundw;case rel=>exact⟨m+1,by omega,by go_num,OKN.out,(HG.out.alloc _).xt _ _⟩
     case measure=>simp[intOf];omega
    have D:=aa (show false=decide (fA ps) from bC (gJ aA (by rintro⟨_,q1,q2,q3,q4,q5⟩;omega)));clear kQ lK;go_wp2_with fail;refine ar (by kernel_rfl) (by kernel_rfl) ?_;repeat(go_big_quiet_step (first|(go_at_call 101;exact eA (gG (by omega)))|(go_at_call 101;exact eA (jW (by omega)))))
    refine wpQuiet_nil ?_;rintro _ ⟨⟨O,d9⟩,rfl⟩;go_wp2_with fail;go_ret;exact⟨ai D.out,(HG.out.alloc _).xt _ _⟩
   have D:=aa (show false=decide (fA ps) from bC (gJ aA (by rintro⟨_,q1,q2,q3,q4,q5⟩;omega)));clear kQ lK;go_wp2_with fail;refine ar (by kernel_rfl) (by kernel_rfl) ?_;repeat(go_big_quiet_step (first|(go_at_call 101;exact eA (gG (by omega)))|(go_at_call 101;exact eA (jW (by omega)))))
   refine wpQuiet_nil ?_;rintro _ ⟨⟨O,d9⟩,rfl⟩;go_wp2_with fail;go_ret;exact⟨ai D.out,(HG.out.alloc _).xt _ _⟩
  have EB:Hid ((decide ((1:Int)<=(ps.length:Int))&&decide ((ps.length:Int)<=8))=decide (fA ps)):=aa (by
   by_cases hb:1<=ps.length/\ps.length<=8
   ·rw[dtx (show fA ps from⟨hb.1,hb.2,fun k hk=>HOK.out k (by omega)⟩)];simp;omega
   rw[dfx (show¬fA ps from fun q=>hb ⟨q.1,q.2.1⟩)];simp;omega)
  go_wp2_with fail;refine(xC _ _ _ _).mono ?_;rw[EB.out];rintro e w' ⟨rfl,rfl⟩;go_wp2_with fail;go_ret;exact⟨rfl,HG.out⟩
def Dg(w:World)(v:Value)(x:Scl):Prop:=∃a c,v= .agg #[.int .i64 x.clock,.int .i64 x.supply,.slice a x.points.length c]/\x.points.length<=c/\Fit x.points.length/\ag 2 qT w a x.points/\aK x.clock/\aK x.supply
theorem Fl{w:World}{ao:Option Addr}{xs:List Scl}(h:ag 3 lN w ao xs){k:Nat}(hk:k<xs.length):∃b o a c,ao=some ⟨b,o,none⟩/\w.cell? ⟨b,o+k*3,none⟩=some (.int .i64 xs[k].clock)/\w.cell? ⟨b,o+k*3+1,none⟩=some (.int .i64 xs[k].supply)/\w.cell? ⟨b,o+k*3+2,none⟩=some (.slice a xs[k].points.length c)/\Dg w (.agg #[.int .i64 xs[k].clock,.int .i64 xs[k].supply,.slice a xs[k].points.length c]) xs[k]:=by obtain⟨b,o,e,⟨c0,w0⟩,⟨c1,w1⟩,⟨a,c,c2,l2,f2,s2⟩⟩:=h k hk;exact⟨b,o,a,c,e,c0,c1,c2,a,c,rfl,l2,f2,s2,w0,w1⟩
theorem Mm(x:Scl)(n d:Int)(a:Option Addr)(c:Nat)(w:World)(h:ag 2 qT w a x.points)(hf:Fit x.points.length)(hn:aK n)(hd:aK d):
  Calls Tryz.prog 17 #[.agg #[.int .i64 x.clock,.int .i64 x.supply,.slice a x.points.length c],.agg #[.int .i64 n,.int .i64 d]] w (aN w (.tuple #[.int .i64 (gR x.points n d).1,.bool (gR x.points n d).2])):=by
 have H:=aa h;have HF:=aa hf;have HN:=hn;have HD:=hd;unfold aK at HN HD;unfold Fit at hf;clear h hn hd;go_enter Tryz.func17,Tryz.ntmps17;go_wp2_with fail;refine(yZ x.points a c _ (kK H.out (((gfl _).alloc _).alloc _)) HF.out).mono ?_;rintro e w1 ⟨rfl,bD⟩;obtain⟨W0,hW0⟩:∃W0:World,Hid (W0=(w.alloc (.cells #[.int .i64 x.clock,.int .i64 x.supply,.slice a x.points.length c] 53)).alloc (.cells #[.int .i64 n,.int .i64 d] 57)):=⟨_,aa rfl⟩;have R2:Hid (Row W0 w.heap.size 53 [.int .i64 x.clock,.int .i64 x.supply,.slice a x.points.length c]):=aa (by rw[hW0.out];exact(Row.new _ _ _).alloc _);have R3:Hid (Row W0 (w.heap.size+1) 57 [.int .i64 n,.int .i64 d]):=aa (by rw[hW0.out];have:=Row.new (w.alloc (.cells #[.int .i64 x.clock,.int .i64 x.supply,.slice a x.points.length c] 53)) #[.int .i64 n,.int .i64 d] 57;simpa using this);have G1:Hid (Gr W0 w1):=aa (by rw[hW0.out];exact bD);have G0:Hid (Gr w W0):=aa (by rw[hW0.out];exact((gfl _).alloc _).alloc _);have q2:=R2.out.gr G1.out;have q3:=R3.out.gr G1.out;have x0:=q2.cell 0 (by simp);have x2:=q2.cell 2 (by simp);have xh:=q2.has;have y0:=q3.cell 0 (by simp);have y1:=q3.cell 1 (by simp);have yh:=q3.has;simp only[List.getElem_cons_zero,List.getElem_cons_succ] at x0 x2 y0 y1;clear bD q2 q3 hW0;by_cases hp:fA x.points
 ·have HP:=aa hp;rw[dtx hp];clear hp;go_wp2_with fail;refine(j6 n d _ (by omega) (by omega) (by omega) (by omega)).mono ?_;rintro e w2 ⟨rfl,bY⟩;have G2:=aa (G1.out.trans bY);have q2:=R2.out.gr G2.out;have x0:=q2.cell 0 (by simp);have x2:=q2.cell 2 (by simp);have xh:=q2.has;simp only[List.getElem_cons_zero,List.getElem_cons_succ] at x0 x2;clear bY q2 y0 y1 yh;by_cases hv:bU n d=true
  ·have HV:=aa hv;have EV:=aa (show gR x.points n d=vOf (vAt x.points n d) by unfold gR;rw[if_pos ⟨HP.out,hv⟩]);rw[hv];clear hv;go_wp2_with fail;go_loopw [20] (fun i wr=>∃m:Nat,m<=x.points.length/\i= .int .i64 m/\(∀j (hj:j<x.points.length),j<m->fB n d 0 x.points[j].rate=false)/\Gr W0 wr) (fun i _=>x.points.length-(intOf i).toNat);case atStart=>exact⟨0,Nat.zero_le _,rfl,fun j _ h=>absurd h (by omega),G2.out⟩
   case round=>
    obtain⟨m,hm,rfl,aH,hg⟩:=hrel;have HA:=aa aH;have HG:=aa hg;clear aH hg;by_cases aA:m<x.points.length
    ·obtain⟨b,o,rfl,⟨c0,w0⟩,⟨c1,u1⟩⟩:=kK H.out (G0.out.trans HG.out) m aA;have q3:=R3.out.gr HG.out;have y0:=q3.cell 0 (by simp);have y1:=q3.cell 1 (by simp);have yh:=q3.has;simp only[List.getElem_cons_zero,List.getElem_cons_succ] at y0 y1;have po:=HP.out.2.2 m aA;obtain⟨_,p1,p2,_⟩:=po;clear q3 w0 u1;go_wp2_with fail;refine(uq n d 0 x.points[m].rate _ (by omega) (by omega) (by omega) (by omega)).mono ?_;rintro e w3 ⟨rfl,cG⟩;obtain⟨o3,d3,rfl⟩:=cG;by_cases hw:fB n d 0 x.points[m].rate=true
     ·have EQ:=aa (KP aA (fun j hj hjm=>HA.out j hj hjm) hw);rw[hw];clear hw;go_wp2_with fail;refine bodyPost_ret (v:= .tuple #[.int .i64 x.points[m].mv,.bool true]) (by simp[results,Tryz.results17,go_sem]) rfl ?_;refine⟨?_,(G0.out.trans HG.out).trans (((gfl _).alloc _).xt _ _)⟩;rw[EV.out,EQ.out];rfl
     have hw':fB n d 0 x.points[m].rate=false:=(by simpa using hw);have HW':=aa hw';rw[hw'];clear hw hw';go_wp2_with fail;go_roundw;case rel=>
      refine⟨m+1,by omega,by go_num,fun j hj hjm=>?_,HG.out.trans (((gfl _).alloc _).xt _ _)⟩;by_cases e:j=m
      ·subst e;exact HW'.out
      exact HA.out j hj (by omega)
     case measure=>simp[intOf];omega
    have EQ:=aa (Lv (n:=n) (d:=d) (fun j hj=>HA.out j hj (by omega)));go_wp2_with fail;refine bodyPost_ret (v:= .tuple #[.int .i64 0,.bool false]) (by simp[results,Tryz.results17,go_sem]) rfl ?_;refine⟨?_,G0.out.trans HG.out⟩;rw[EV.out,EQ.out];rfl
  have EV:=aa (show gR x.points n d=(0,false) by unfold gR;rw[if_neg (fun q=>hv q.2)]);have Ik:bU n d=false:=by simpa using hv
  rw[Ik];clear hv Ik;go_wp2_with fail;refine bodyPost_ret (v:= .tuple #[.int .i64 0,.bool false]) (by simp[results,Tryz.results17,go_sem]) rfl ?_;exact⟨by rw[EV.out],G0.out.trans G2.out⟩
 have EV:=aa (show gR x.points n d=(0,false) by unfold gR;rw[if_neg (fun q=>hp q.1)]);rw[dfx hp];clear hp;go_wp2_with fail;refine bodyPost_ret (v:= .tuple #[.int .i64 0,.bool false]) (by simp[results,Tryz.results17,go_sem]) rfl ?_;exact⟨by rw[EV.out],G0.out.trans G1.out⟩
theorem EA(x:Scl)(n d:Int)(a:Option Addr)(c:Nat)(w:World)(h:ag 2 qT w a x.points)(hf:Fit x.points.length)(hn:aK n)(hd:aK d):
  Calls Tryz.prog 74 #[.agg #[.int .i64 x.clock,.int .i64 x.supply,.slice a x.points.length c],.agg #[.int .i64 n,.int .i64 d]] w (aN w (.tuple #[.int .i64 (jK x.points n d).1,.bool (jK x.points n d).2])):=by
 have H:=aa h;have HF:=aa hf;have HN:=aa hn;have HD:=aa hd;unfold Fit at hf;clear h hn hd;by_cases h0:n=0
 ·subst h0;go_enter Tryz.func74,Tryz.ntmps74;go_wp2_with fail;refine bodyPost_ret (v:= .tuple #[.int .i64 0,.bool true]) (by simp[results,Tryz.results74,go_sem]) rfl ?_;exact⟨by unfold jK;rw[if_pos rfl],((gfl _).alloc _).alloc _⟩
 have b0:(n==0)=false:=by simp[h0]
 have EN:=aa (show jK x.points n d=gR x.points n d by unfold jK;rw[if_neg h0]);clear h0;go_enter Tryz.func74,Tryz.ntmps74;go_wp2_with fail;refine(Mm x n d a c _ (kK H.out (((gfl _).alloc _).alloc _)) HF.out HN.out HD.out).mono ?_;rintro e w1 ⟨rfl,bD⟩;have G1:=aa (((gfl w).alloc _).alloc _|>.trans bD);clear bD;go_wp2_with fail;refine bodyPost_ret (v:= .tuple #[.int .i64 (gR x.points n d).1,.bool (gR x.points n d).2]) (by simp[results,Tryz.results74,go_sem]) rfl ?_;exact⟨by rw[EN.out],G1.out⟩
end
end Go.Proofs.YtlmhkjdkcoiioaaGreatDoor
