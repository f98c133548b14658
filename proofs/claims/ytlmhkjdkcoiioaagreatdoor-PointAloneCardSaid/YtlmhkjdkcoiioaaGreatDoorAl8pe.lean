/- Lemmas and contracts for the proof of PointAlone (several texts in one, printed by wip/tools/pack.py): Kh. -/
import Derived.Test.YtlmhkjdkcoiioaaGreatDoorAl8pd
set_option maxRecDepth 100000
set_option maxHeartbeats 16000000
set_option linter.unusedVariables false
set_option linter.unusedSimpArgs false
namespace Go.Proofs.YtlmhkjdkcoiioaaGreatDoor
open Go.RowKit
open Classical
theorem dfx{p:Prop}[Decidable p](h:¬p):decide p=false:=decide_eq_false h
theorem dtx{p:Prop}[Decidable p](h:p):decide p=true:=decide_eq_true h
theorem aY(n lo hi:Int)(w:World):
  Calls Tryz.prog 158 #[.int .i64 n,.int .i64 lo,.int .i64 hi] w fun e w'=>e= .returned (.bool (decide (lo<=n/\n<=hi)))/\w=w':=by
 by_cases h1:lo<=n
 ·by_cases h2:n<=hi;all_goals
   go_enter Tryz.func158,Tryz.ntmps158;go_wp2;go_ret;exact⟨ai (by simp;try omega),rfl⟩
 go_enter Tryz.func158,Tryz.ntmps158;go_wp2;go_ret;exact⟨ai (by simp;omega),rfl⟩
theorem Pl(xs:List Int)(a:Option Addr)(cap:Nat)(x:Int)(w:World)(hx:ag 1 RI w a xs)(fx:Fit xs.length):
  Calls Tryz.prog 199 #[.slice a xs.length cap,.int .i64 x] w fun e w'=>∃y:Int,e= .returned (.int .i64 y)/\(0<=y↔x∈xs)/\w=w':=by
 unfold Fit at fx;have HX:=aa hx;clear hx;go_enter Tryz.func199,Tryz.ntmps199;go_wp2;go_loop [8] (fun i=>∃k:Nat,k<=xs.length/\i= .int .i64 k/\(∀j (h:j<xs.length),j<k->xs[j]≠x)) (fun i=>xs.length-(intOf i).toNat);case atStart=>exact⟨0,Nat.zero_le _,rfl,fun j _ h=>absurd h (by omega)⟩
 case round=>
  obtain⟨k,hk,rfl,aH⟩:=hrel;have HA:=aa aH;clear aH;by_cases aA:k<xs.length
  ·obtain⟨bx,ox,rfl,⟨c1,_⟩⟩:=HX.out.one k aA;by_cases he:xs[k]=x
   ·have Fu:(x==xs[k])=true:=(by simp[he]);have HE:=aa he;clear he;go_wp2;go_ret;exact⟨k,rfl,⟨fun _=>by rw[<-HE.out];exact List.getElem_mem aA,fun _=>by omega⟩,rfl⟩
   have Fu:(x==xs[k])=false:=by simp;exact fun q=>he q.symm
   have HE:=aa he;clear he;go_wp2;go_round;case rel=>
    refine⟨k+1,by omega,by go_num,fun j h1 hj=>?_⟩;by_cases e:j=k
    ·subst e;exact HE.out
    exact HA.out j h1 (by omega)
   case measure=>simp[intOf];omega
  go_wp2;go_ret;refine⟨-1,rfl,⟨fun h=>by omega,fun hm=>?_⟩,rfl⟩;obtain⟨j,hj,e⟩:=List.getElem_of_mem hm;exact absurd e (HA.out j hj (by omega))
theorem IB(xs:List Int)(a:Option Addr)(cap:Nat)(x:Int)(w:World)(hx:ag 1 RI w a xs)(fx:Fit xs.length):
  Calls Tryz.prog 193 #[.slice a xs.length cap,.int .i64 x] w fun e w'=>e= .returned (.bool (decide (x∈xs)))/\w=w':=by
 have HX:=aa hx;have FX:=aa fx;clear hx fx;go_enter Tryz.func193,Tryz.ntmps193;go_wp2_with fail;refine(Pl xs a cap x w HX.out FX.out).mono ?_;rintro e w' ⟨y,rfl,hy,rfl⟩;have HY:=aa hy;clear hy;go_wp2_with fail;go_ret;exact⟨ai (by rw[decide_eq_decide];exact HY.out),rfl⟩
theorem Qi(xs ys:List Int)(ax ay:Option Addr)(cx cy:Nat)(w:World)(hx:ag 1 RI w ax xs)(hy:ag 1 RI w ay ys)(fx:Fit xs.length)(_fy:Fit ys.length):
  Calls Tryz.prog 181 #[.slice ax xs.length cx,.slice ay ys.length cy] w (aN w (.bool (decide (xs=ys)))):=by
 unfold Fit at fx;have HX:=aa hx;have HY:=aa hy;clear hx hy;by_cases hl:xs.length=ys.length
 ·have hlb:((xs.length:Int) !=(ys.length:Int))=false:=by simp[hl]
  have HL:=aa hl;clear hl;go_enter Tryz.func181,Tryz.ntmps181;go_wp2;go_loopw [13] (fun i wr=>∃k:Nat,k<=xs.length/\i= .int .i64 k/\(∀j (h1:j<xs.length) (h2:j<ys.length),j<k->xs[j]=ys[j])/\∃n,wr=w.drewN n) (fun i _=>xs.length-(intOf i).toNat);case atStart=>exact⟨0,Nat.zero_le _,rfl,fun j _ _ h=>absurd h (by omega),0,rfl⟩
  case round=>
   obtain⟨k,hk,rfl,aH,n,rfl⟩:=hrel;have HA:=aa aH;clear aH;by_cases aA:k<xs.length
   ·have fj:k<ys.length:=(by have:=HL.out;omega);obtain⟨bx,ox,rfl,⟨c1,_⟩⟩:=HX.out.one k aA;obtain⟨by',oy,rfl,⟨c2,_⟩⟩:=HY.out.one k fj;by_cases he:xs[k]=ys[k]
    ·have Fu:(xs[k] !=ys[k])=false:=(by simp[he]);have HE:=aa he;clear he;go_wp2
     go_quiet (fail)
     go_wp2;go_roundw;case rel=>
      refine⟨k+1,by omega,by go_num,fun j h1 h2 hj=>?_,n+nq,by simp⟩;by_cases e:j=k
      ·subst e;exact HE.out
      exact HA.out j h1 h2 (by omega)
     case measure=>simp[intOf];omega
    have Fu:(xs[k] !=ys[k])=true:=(by simp[he]);have HE:=aa he;clear he;go_wp2
    go_quiet (fail)
    go_wp2;go_ret;exact⟨ai (by simp[Vv k aA fj HE.out]),grr⟩
   go_wp2;go_ret;exact⟨ai (by simp[Sd HL.out (fun j h1 h2=>HA.out j h1 h2 (by omega))]),grr⟩
 have hlb:((xs.length:Int) !=(ys.length:Int))=true:=by simp;omega
 go_enter Tryz.func181,Tryz.ntmps181;go_wp2;go_ret;exact⟨ai (by simp;intro h;exact hl (by rw[h])),gfl _⟩
theorem Mz(xs:List Int)(ax:Option Addr)(cx:Nat)(W:World)(B:Nat)(hB:W.heap.size=B)(hx:ag 1 RI W ax xs)(fx:Fit xs.length):
  Calls Tryz.prog 181 #[.slice ax xs.length cx,.slice (some ⟨B,0,none⟩) 2 2] (W.alloc (.cells #[.int .i64 0,.int .i64 1] 3)) (aN (W.alloc (.cells #[.int .i64 0,.int .i64 1] 3)) (.bool (decide (xs= [0,1])))):=by
 subst hB;exact Qi xs [0,1] ax (some ⟨W.heap.size,0,none⟩) cx 2 _ (hx.giI ((gfl _).alloc _)) (Vn _ _) fx (by unfold Fit;simp)
theorem sK(xs:List Int)(a:Option Addr)(cap:Nat)(lo hi:Int)(w:World)(hx:ag 1 RI w a xs)(hc:xs.length<=cap)(fx:Fit xs.length):
  Calls Tryz.prog 180 #[.slice a xs.length cap,.int .i64 lo,.int .i64 hi] w (aN w (.bool (decide (nM xs lo hi)))):=by
 have FX:=aa fx;unfold Fit at fx;have HX:=aa hx;clear hx;go_enter Tryz.func180,Tryz.ntmps180;go_wp2;go_loopw [11] (fun i wr=>∃k:Nat,k<=xs.length/\i= .int .i64 k/\(∀j,j<k->J5 xs lo hi j)/\Gr w wr) (fun i _=>xs.length-(intOf i).toNat);case atStart=>exact⟨0,Nat.zero_le _,rfl,fun j h=>absurd h (by omega),gfl _⟩
 case round=>
  obtain⟨k,hk,rfl,aH,hg⟩:=hrel;have HA:=aa aH;have HG:=aa hg;clear aH hg;obtain⟨wo,rfl⟩:∃wo:World,wo=wr:=⟨_,rfl⟩;by_cases aA:k<xs.length
  ·obtain⟨bx,ox,rfl,⟨c1,_⟩⟩:=(HX.out.giI HG.out).one k aA;have lt':(xs.take k).length=k:=by simp;omega
   have LT:=aa lt';clear lt';have g0:(k:Int)<=cap:=by omega
   go_wp2_with fail;refine(aY _ _ _ _).mono ?_;rintro e w' ⟨rfl,rfl⟩;by_cases h1:lo<=xs[k]/\xs[k]<=hi
   ·rw[dtx h1];have H1:=aa h1;clear h1;go_wp2_with fail;have:=IB (xs.take k) (some ⟨bx,ox,none⟩) cap xs[k] wo ((HX.out.giI HG.out).take k) (by unfold Fit;have:=LT.out;omega);rw[LT.out] at this;refine this.mono ?_;rintro e w' ⟨rfl,rfl⟩;by_cases hm:xs[k]∈xs.take k
    ·rw[dtx hm];have HM:=aa hm;clear hm;go_wp2_with fail;go_ret;refine⟨ai ?_,HG.out⟩;have:¬nM xs lo hi:=fun q=>by obtain⟨_,_,_,q3⟩:=q k aA;exact q3 HM.out
     simp[this]
    rw[dfx hm];have HM:=aa hm;clear hm;go_wp2_with fail;go_roundw;case rel=>
     refine⟨k+1,by omega,by go_num,fun j hj=>?_,HG.out⟩;by_cases e:j=k
     ·subst e;exact⟨aA,H1.out.1,H1.out.2,HM.out⟩
     exact HA.out j (by omega)
    case measure=>simp[intOf];omega
   rw[dfx h1];have H1:=aa h1;clear h1;go_wp2_with fail;go_ret;refine⟨ai ?_,HG.out⟩;have:¬nM xs lo hi:=fun q=>by obtain⟨_,q1,q2,_⟩:=q k aA;exact H1.out ⟨q1,q2⟩
   simp[this]
  go_wp2_with fail;go_ret;refine⟨ai ?_,HG.out⟩;have:nM xs lo hi:=fun j hj=>HA.out j (by omega);simp[this]
theorem Md(p at':Int)(B:Nat)(w:World)(c:w.cell? ⟨B,0,none⟩=some (.int .i64 at'))(h0:0<=at')(h1:at'<=1000):
  Calls Tryz.prog 179 #[.int .i64 p,.pointer (some ⟨B,0,none⟩)] w fun e w'=>e= .returned (.bool (!decide (0<=p/\p<=at'-1)))/\w=w':=by
 go_enter Tryz.func179,Tryz.ntmps179;go_wp2_with fail;refine(aY _ _ _ _).mono ?_;rintro e w' ⟨rfl,rfl⟩;by_cases he:0<=p/\p<=at'-1
 ·rw[dtx he];have HE:=aa he;clear he;go_wp2_with fail;go_ret;exact⟨ai (by simp;exact HE.out),rfl⟩
 rw[dfx he];have HE:=aa he;clear he;go_wp2_with fail;go_ret;exact⟨ai (by simp;have:=HE.out;omega),rfl⟩
def nu(xs:List Int)(at':Int):Prop:=∃j,∃h:j<xs.length,¬(0<=xs[j]/\xs[j]<=at'-1)
theorem KE(xs:List Int)(a:Option Addr)(cap B:Nat)(at':Int)(w:World)(hx:ag 1 RI w a xs)(fx:Fit xs.length)(c:w.cell? ⟨B,0,none⟩=some (.int .i64 at'))(h0:0<=at')(h1:at'<=1000):
  Calls Tryz.prog 192 #[.slice a xs.length cap,.func (.func 179) #[] #[.pointer (some ⟨B,0,none⟩)]] w fun e w'=>∃y:Int,e= .returned (.int .i64 y)/\(0<=y↔nu xs at')/\w=w':=by
 unfold Fit at fx;have HX:=aa hx;have HC:=aa c;clear hx c;go_enter Tryz.func192,Tryz.ntmps192;go_wp2;go_loop [8] (fun i=>∃k:Nat,k<=xs.length/\i= .int .i64 k/\(∀j (h:j<xs.length),j<k->0<=xs[j]/\xs[j]<=at'-1)) (fun i=>xs.length-(intOf i).toNat);case atStart=>exact⟨0,Nat.zero_le _,rfl,fun j _ h=>absurd h (by omega)⟩
 case round=>
  obtain⟨k,hk,rfl,aH⟩:=hrel;have HA:=aa aH;clear aH;by_cases aA:k<xs.length
  ·obtain⟨bx,ox,rfl,⟨c1,_⟩⟩:=HX.out.one k aA;go_wp2_with fail;refine(Md xs[k] at' B w HC.out h0 h1).mono ?_;rintro e w' ⟨rfl,rfl⟩;by_cases he:0<=xs[k]/\xs[k]<=at'-1
   ·rw[dtx he];have HE:=aa he;clear he;go_wp2_with fail;go_round;case rel=>
     refine⟨k+1,by omega,by go_num,fun j h1 hj=>?_⟩;by_cases e:j=k
     ·subst e;exact HE.out
     exact HA.out j h1 (by omega)
    case measure=>simp[intOf];omega
   rw[dfx he];have HE:=aa he;clear he;go_wp2_with fail;go_ret;exact⟨k,rfl,⟨fun _=>⟨k,aA,HE.out⟩,fun _=>by omega⟩,rfl⟩
  go_wp2;go_ret;refine⟨-1,rfl,⟨fun h=>by omega,fun⟨j,hj,q⟩=>absurd (HA.out j hj (by omega)) q⟩,rfl⟩
theorem bW(xs:List Int)(a:Option Addr)(cap B:Nat)(at':Int)(w:World)(hx:ag 1 RI w a xs)(fx:Fit xs.length)(c:w.cell? ⟨B,0,none⟩=some (.int .i64 at'))(h0:0<=at')(h1:at'<=1000):
  Calls Tryz.prog 178 #[.slice a xs.length cap,.func (.func 179) #[] #[.pointer (some ⟨B,0,none⟩)]] w fun e w'=>e= .returned (.bool (decide (nu xs at')))/\w=w':=by
 have HX:=aa hx;have FX:=aa fx;have HC:=aa c;clear hx fx c;go_enter Tryz.func178,Tryz.ntmps178;go_wp2_with fail;refine(KE xs a cap B at' w HX.out FX.out HC.out h0 h1).mono ?_;rintro e w' ⟨y,rfl,hy,rfl⟩;have HY:=aa hy;clear hy;go_wp2_with fail;go_ret;exact⟨ai (by rw[decide_eq_decide];exact HY.out),rfl⟩
theorem Xv(kind:Int)(parents choices:List Int)(low high:Int)(ap ac:Option Addr)(cp cc i:Nat)(w:World)(hp:parents.length<=cp)(hc:choices.length<=cc)(fp:parents.length<=8)(fc:choices.length<=8)(sp:ag 1 RI w ap parents)(sc:ag 1 RI w ac choices)(hi:i<=100)(PB:Hid (decide (nu parents (i:Int))=true)):
  Calls Tryz.prog 149 #[.agg #[.int .i64 kind,.slice ap parents.length cp,.slice ac choices.length cc,.int .i64 low,.int .i64 high],.int .i64 i] w (aN w (.bool (false))):=by
 have SP:=aa sp;have SC:=aa sc;clear sp sc;go_enter Tryz.func149,Tryz.ntmps149;go_wp2_with fail;refine(bW parents ap cp _ (i:Int) _ (SP.out.giI grr) (by unfold Fit;omega) (by simp[go_sem]) (by omega) (by omega)).mono ?_;rintro e w' ⟨rfl,rfl⟩;rw[PB.out];go_wp2_with fail;go_ret;exact⟨ai (by rfl),grr⟩
theorem Wg(kind:Int)(parents choices:List Int)(low high:Int)(ap ac:Option Addr)(cp cc i:Nat)(w:World)(hp:parents.length<=cp)(hc:choices.length<=cc)(fp:parents.length<=8)(fc:choices.length<=8)(sp:ag 1 RI w ap parents)(sc:ag 1 RI w ac choices)(hi:i<=100)(PB:Hid (decide (nu parents (i:Int))=false))(HB:Hid (decide (0<=high/\high<=4000000000)=false)):
  Calls Tryz.prog 149 #[.agg #[.int .i64 kind,.slice ap parents.length cp,.slice ac choices.length cc,.int .i64 low,.int .i64 high],.int .i64 i] w (aN w (.bool (false))):=by
 have SP:=aa sp;have SC:=aa sc;clear sp sc;go_enter Tryz.func149,Tryz.ntmps149;go_wp2_with fail;refine(bW parents ap cp _ (i:Int) _ (SP.out.giI grr) (by unfold Fit;omega) (by simp[go_sem]) (by omega) (by omega)).mono ?_;rintro e w' ⟨rfl,rfl⟩;rw[PB.out];go_wp2_with fail;refine(aY high 0 4000000000 _).mono ?_;rintro e w' ⟨rfl,rfl⟩;rw[HB.out];go_wp2_with fail;go_ret;exact⟨ai (by rfl),grr⟩
theorem Xp(kind:Int)(parents choices:List Int)(low high:Int)(ap ac:Option Addr)(cp cc i:Nat)(w:World)(hp:parents.length<=cp)(hc:choices.length<=cc)(fp:parents.length<=8)(fc:choices.length<=8)(sp:ag 1 RI w ap parents)(sc:ag 1 RI w ac choices)(hi:i<=100)(PB:Hid (decide (nu parents (i:Int))=false))(HB:Hid (decide (0<=high/\high<=4000000000)=true))(LB:Hid (decide (0<=low/\low<=high)=false)):
  Calls Tryz.prog 149 #[.agg #[.int .i64 kind,.slice ap parents.length cp,.slice ac choices.length cc,.int .i64 low,.int .i64 high],.int .i64 i] w (aN w (.bool (false))):=by
 have SP:=aa sp;have SC:=aa sc;clear sp sc;go_enter Tryz.func149,Tryz.ntmps149;go_wp2_with fail;refine(bW parents ap cp _ (i:Int) _ (SP.out.giI grr) (by unfold Fit;omega) (by simp[go_sem]) (by omega) (by omega)).mono ?_;rintro e w' ⟨rfl,rfl⟩;rw[PB.out];go_wp2_with fail;refine(aY high 0 4000000000 _).mono ?_;rintro e w' ⟨rfl,rfl⟩;rw[HB.out];go_wp2_with fail;refine(aY low 0 high _).mono ?_;rintro e w' ⟨rfl,rfl⟩;rw[LB.out];go_wp2_with fail;go_ret;exact⟨ai (by rfl),grr⟩
theorem Ul{xs:List Int}{n:Nat}(h:nM xs 0 ((n:Int)-1))(h1:1<=xs.length):1<=n:=by obtain⟨_,h2,h3,_⟩:=h 0 (by omega);omega
theorem pv1(kind:Int)(parents choices:List Int)(low high:Int)(ap ac:Option Addr)(cp cc i:Nat)(w:World)(hp:parents.length<=cp)(hc:choices.length<=cc)(fp:parents.length<=8)(fc:choices.length<=8)(sp:ag 1 RI w ap parents)(sc:ag 1 RI w ac choices)(hi:i<=100)(PB:Hid (decide (nu parents (i:Int))=false))(HB:Hid (decide (0<=high/\high<=4000000000)=true))(LB:Hid (decide (0<=low/\low<=high)=true)):
  Calls Tryz.prog 149 #[.agg #[.int .i64 1,.slice ap parents.length cp,.slice ac choices.length cc,.int .i64 low,.int .i64 high],.int .i64 i] w (aN w (.bool (decide (dH ⟨1,parents,choices,low,high⟩)))):=by
 have SP:=aa sp;have SC:=aa sc;clear sp sc;have no:dH ⟨1,parents,choices,low,high⟩↔(parents.length=0/\∃h:choices.length=1,1<=choices[0]/\choices[0]<=4000000000):=by unfold dH;simp
 have NO:=aa no;clear no;by_cases h0:parents.length=0
 ·have b0:((parents.length:Int)==0)=true:=beq_iff_eq.2 (by omega);have b9:((parents.length:Int)==1)=false:=beq_eq_false_iff_ne.2 (by omega);have H0:=aa h0;clear h0;by_cases h1:choices.length=1
  ·obtain⟨x,rfl⟩:∃x,choices= [x]:=List.length_eq_one_iff.1 h1;clear h1;obtain⟨bc,oc,rfl,⟨q,_⟩⟩:=SC.out.one 0 (by simp);have qh:=ae q;simp only[List.getElem_cons_zero,List.length_cons,List.length_nil,Nat.zero_add,Nat.add_zero] at q ⊢;go_enter Tryz.func149,Tryz.ntmps149;go_wp2_with fail;refine(bW parents ap cp _ (i:Int) _ (SP.out.giI grr) (by unfold Fit;omega) (by simp[go_sem]) (by omega) (by omega)).mono ?_;rintro e w' ⟨rfl,rfl⟩;rw[PB.out];go_wp2_with fail;refine(aY high 0 4000000000 _).mono ?_;rintro e w' ⟨rfl,rfl⟩;rw[HB.out];go_wp2_with fail;refine(aY low 0 high _).mono ?_;rintro e w' ⟨rfl,rfl⟩;rw[LB.out];go_wp2_with fail;refine(aY x 1 4000000000 _).mono ?_;rintro e w' ⟨rfl,rfl⟩;by_cases hx:1<=x/\x<=4000000000
   ·rw[dtx hx];have HX:=aa hx;clear hx;go_wp2_with fail;go_ret;exact⟨ai (by(rw[eq_comm,decide_eq_true_eq,NO.out];exact⟨H0.out,rfl,HX.out⟩)),grr⟩
   rw[dfx hx];have HX:=aa hx;clear hx;go_wp2_with fail;go_ret;exact⟨ai (by(rw[eq_comm,decide_eq_false_iff_not,NO.out];rintro⟨_,_,q⟩;exact HX.out q)),grr⟩
  have b1:((choices.length:Int)==1)=false:=beq_eq_false_iff_ne.2 (by omega);have H1:=aa h1;clear h1;go_enter Tryz.func149,Tryz.ntmps149;go_wp2_with fail;refine(bW parents ap cp _ (i:Int) _ (SP.out.giI grr) (by unfold Fit;omega) (by simp[go_sem]) (by omega) (by omega)).mono ?_;rintro e w' ⟨rfl,rfl⟩;rw[PB.out];go_wp2_with fail;refine(aY high 0 4000000000 _).mono ?_;rintro e w' ⟨rfl,rfl⟩;rw[HB.out];go_wp2_with fail;refine(aY low 0 high _).mono ?_;rintro e w' ⟨rfl,rfl⟩;rw[LB.out];go_wp2_with fail;go_ret;exact⟨ai (by(rw[eq_comm,decide_eq_false_iff_not,NO.out];rintro⟨_,q,_⟩;exact H1.out q)),grr⟩
 have b0:((parents.length:Int)==0)=false:=beq_eq_false_iff_ne.2 (by omega);have H0:=aa h0;by_cases h9:parents.length=1
 ·have b9:((parents.length:Int)==1)=true:=beq_iff_eq.2 (by omega);clear h0 h9;go_enter Tryz.func149,Tryz.ntmps149;go_wp2_with fail;refine(bW parents ap cp _ (i:Int) _ (SP.out.giI grr) (by unfold Fit;omega) (by simp[go_sem]) (by omega) (by omega)).mono ?_;rintro e w' ⟨rfl,rfl⟩;rw[PB.out];go_wp2_with fail;refine(aY high 0 4000000000 _).mono ?_;rintro e w' ⟨rfl,rfl⟩;rw[HB.out];go_wp2_with fail;refine(aY low 0 high _).mono ?_;rintro e w' ⟨rfl,rfl⟩;rw[LB.out];go_wp2_with fail;go_ret;exact⟨ai (by(rw[eq_comm,decide_eq_false_iff_not,NO.out];rintro⟨q,_⟩;exact H0.out q)),grr⟩
 have b9:((parents.length:Int)==1)=false:=beq_eq_false_iff_ne.2 (by omega);clear h0 h9;go_enter Tryz.func149,Tryz.ntmps149;go_wp2_with fail;refine(bW parents ap cp _ (i:Int) _ (SP.out.giI grr) (by unfold Fit;omega) (by simp[go_sem]) (by omega) (by omega)).mono ?_;rintro e w' ⟨rfl,rfl⟩;rw[PB.out];go_wp2_with fail;refine(aY high 0 4000000000 _).mono ?_;rintro e w' ⟨rfl,rfl⟩;rw[HB.out];go_wp2_with fail;refine(aY low 0 high _).mono ?_;rintro e w' ⟨rfl,rfl⟩;rw[LB.out];go_wp2_with fail;go_ret;exact⟨ai (by(rw[eq_comm,decide_eq_false_iff_not,NO.out];rintro⟨q,_⟩;exact H0.out q)),grr⟩
theorem pv2(kind:Int)(parents choices:List Int)(low high:Int)(ap ac:Option Addr)(cp cc i:Nat)(w:World)(hp:parents.length<=cp)(hc:choices.length<=cc)(fp:parents.length<=8)(fc:choices.length<=8)(sp:ag 1 RI w ap parents)(sc:ag 1 RI w ac choices)(hi:i<=100)(PB:Hid (decide (nu parents (i:Int))=false))(HB:Hid (decide (0<=high/\high<=4000000000)=true))(LB:Hid (decide (0<=low/\low<=high)=true)):
  Calls Tryz.prog 149 #[.agg #[.int .i64 2,.slice ap parents.length cp,.slice ac choices.length cc,.int .i64 low,.int .i64 high],.int .i64 i] w (aN w (.bool (decide (dH ⟨2,parents,choices,low,high⟩)))):=by
 have SP:=aa sp;have SC:=aa sc;clear sp sc;have no:dH ⟨2,parents,choices,low,high⟩↔(parents.length=1/\1<=choices.length/\nM choices 1 64):=by unfold dH;simp
 have NO:=aa no;clear no;by_cases h0:parents.length=1
 ·have b0:((parents.length:Int)==1)=true:=beq_iff_eq.2 (by omega);have H0:=aa h0;clear h0;by_cases h1:1<=choices.length
  ·have b1:decide ((0:Int)<choices.length)=true:=dtx (by omega);go_enter Tryz.func149,Tryz.ntmps149;go_wp2_with fail;refine(bW parents ap cp _ (i:Int) _ (SP.out.giI grr) (by unfold Fit;omega) (by simp[go_sem]) (by omega) (by omega)).mono ?_;rintro e w' ⟨rfl,rfl⟩;rw[PB.out];go_wp2_with fail;refine(aY high 0 4000000000 _).mono ?_;rintro e w' ⟨rfl,rfl⟩;rw[HB.out];go_wp2_with fail;refine(aY low 0 high _).mono ?_;rintro e w' ⟨rfl,rfl⟩;rw[LB.out];go_wp2_with fail;refine(sK choices ac cc 1 64 _ (SC.out.giI grr) hc (by unfold Fit;omega)).mono ?_;rintro e w' ⟨rfl,O1,D1,rfl⟩;go_wp2_with fail;go_ret;exact⟨ai (by(rw[decide_eq_decide,NO.out];exact⟨fun q=>⟨H0.out,h1,q⟩,fun q=>q.2.2⟩)),grr⟩
  have b1:decide ((0:Int)<choices.length)=false:=dfx (by omega);go_enter Tryz.func149,Tryz.ntmps149;go_wp2_with fail;refine(bW parents ap cp _ (i:Int) _ (SP.out.giI grr) (by unfold Fit;omega) (by simp[go_sem]) (by omega) (by omega)).mono ?_;rintro e w' ⟨rfl,rfl⟩;rw[PB.out];go_wp2_with fail;refine(aY high 0 4000000000 _).mono ?_;rintro e w' ⟨rfl,rfl⟩;rw[HB.out];go_wp2_with fail;refine(aY low 0 high _).mono ?_;rintro e w' ⟨rfl,rfl⟩;rw[LB.out];go_wp2_with fail;go_ret;exact⟨ai (by(rw[eq_comm,decide_eq_false_iff_not,NO.out];rintro⟨_,q,_⟩;exact h1 q)),grr⟩
 have b0:((parents.length:Int)==1)=false:=beq_eq_false_iff_ne.2 (by omega);have H0:=aa h0;clear h0;go_enter Tryz.func149,Tryz.ntmps149;go_wp2_with fail;refine(bW parents ap cp _ (i:Int) _ (SP.out.giI grr) (by unfold Fit;omega) (by simp[go_sem]) (by omega) (by omega)).mono ?_;rintro e w' ⟨rfl,rfl⟩;rw[PB.out];go_wp2_with fail;refine(aY high 0 4000000000 _).mono ?_;rintro e w' ⟨rfl,rfl⟩;rw[HB.out];go_wp2_with fail;refine(aY low 0 high _).mono ?_;rintro e w' ⟨rfl,rfl⟩;rw[LB.out];go_wp2_with fail;go_ret;exact⟨ai (by(rw[eq_comm,decide_eq_false_iff_not,NO.out];rintro⟨q,_⟩;exact H0.out q)),grr⟩
theorem pv3(kind:Int)(parents choices:List Int)(low high:Int)(ap ac:Option Addr)(cp cc i:Nat)(w:World)(hp:parents.length<=cp)(hc:choices.length<=cc)(fp:parents.length<=8)(fc:choices.length<=8)(sp:ag 1 RI w ap parents)(sc:ag 1 RI w ac choices)(hi:i<=100)(PB:Hid (decide (nu parents (i:Int))=false))(HB:Hid (decide (0<=high/\high<=4000000000)=true))(LB:Hid (decide (0<=low/\low<=high)=true)):
  Calls Tryz.prog 149 #[.agg #[.int .i64 3,.slice ap parents.length cp,.slice ac choices.length cc,.int .i64 low,.int .i64 high],.int .i64 i] w (aN w (.bool (decide (dH ⟨3,parents,choices,low,high⟩)))):=by
 have SP:=aa sp;have SC:=aa sc;clear sp sc;have no:dH ⟨3,parents,choices,low,high⟩↔(parents.length=1/\1<=choices.length/\nM choices 1 64):=by unfold dH;simp
 have NO:=aa no;clear no;by_cases h0:parents.length=1
 ·have b0:((parents.length:Int)==1)=true:=beq_iff_eq.2 (by omega);have H0:=aa h0;clear h0;by_cases h1:1<=choices.length
  ·have b1:decide ((0:Int)<choices.length)=true:=dtx (by omega);go_enter Tryz.func149,Tryz.ntmps149;go_wp2_with fail;refine(bW parents ap cp _ (i:Int) _ (SP.out.giI grr) (by unfold Fit;omega) (by simp[go_sem]) (by omega) (by omega)).mono ?_;rintro e w' ⟨rfl,rfl⟩;rw[PB.out];go_wp2_with fail;refine(aY high 0 4000000000 _).mono ?_;rintro e w' ⟨rfl,rfl⟩;rw[HB.out];go_wp2_with fail;refine(aY low 0 high _).mono ?_;rintro e w' ⟨rfl,rfl⟩;rw[LB.out];go_wp2_with fail;refine(sK choices ac cc 1 64 _ (SC.out.giI grr) hc (by unfold Fit;omega)).mono ?_;rintro e w' ⟨rfl,O1,D1,rfl⟩;go_wp2_with fail;go_ret;exact⟨ai (by(rw[decide_eq_decide,NO.out];exact⟨fun q=>⟨H0.out,h1,q⟩,fun q=>q.2.2⟩)),grr⟩
  have b1:decide ((0:Int)<choices.length)=false:=dfx (by omega);go_enter Tryz.func149,Tryz.ntmps149;go_wp2_with fail;refine(bW parents ap cp _ (i:Int) _ (SP.out.giI grr) (by unfold Fit;omega) (by simp[go_sem]) (by omega) (by omega)).mono ?_;rintro e w' ⟨rfl,rfl⟩;rw[PB.out];go_wp2_with fail;refine(aY high 0 4000000000 _).mono ?_;rintro e w' ⟨rfl,rfl⟩;rw[HB.out];go_wp2_with fail;refine(aY low 0 high _).mono ?_;rintro e w' ⟨rfl,rfl⟩;rw[LB.out];go_wp2_with fail;go_ret;exact⟨ai (by(rw[eq_comm,decide_eq_false_iff_not,NO.out];rintro⟨_,q,_⟩;exact h1 q)),grr⟩
 have b0:((parents.length:Int)==1)=false:=beq_eq_false_iff_ne.2 (by omega);have H0:=aa h0;clear h0;go_enter Tryz.func149,Tryz.ntmps149;go_wp2_with fail;refine(bW parents ap cp _ (i:Int) _ (SP.out.giI grr) (by unfold Fit;omega) (by simp[go_sem]) (by omega) (by omega)).mono ?_;rintro e w' ⟨rfl,rfl⟩;rw[PB.out];go_wp2_with fail;refine(aY high 0 4000000000 _).mono ?_;rintro e w' ⟨rfl,rfl⟩;rw[HB.out];go_wp2_with fail;refine(aY low 0 high _).mono ?_;rintro e w' ⟨rfl,rfl⟩;rw[LB.out];go_wp2_with fail;go_ret;exact⟨ai (by(rw[eq_comm,decide_eq_false_iff_not,NO.out];rintro⟨q,_⟩;exact H0.out q)),grr⟩
theorem pv4(kind:Int)(parents choices:List Int)(low high:Int)(ap ac:Option Addr)(cp cc i:Nat)(w:World)(hp:parents.length<=cp)(hc:choices.length<=cc)(fp:parents.length<=8)(fc:choices.length<=8)(sp:ag 1 RI w ap parents)(sc:ag 1 RI w ac choices)(hi:i<=100)(PB:Hid (decide (nu parents (i:Int))=false))(HB:Hid (decide (0<=high/\high<=4000000000)=true))(LB:Hid (decide (0<=low/\low<=high)=true)):
  Calls Tryz.prog 149 #[.agg #[.int .i64 4,.slice ap parents.length cp,.slice ac choices.length cc,.int .i64 low,.int .i64 high],.int .i64 i] w (aN w (.bool (decide (dH ⟨4,parents,choices,low,high⟩)))):=by
 have SP:=aa sp;have SC:=aa sc;clear sp sc;have no:dH ⟨4,parents,choices,low,high⟩↔(1<=parents.length/\1<=choices.length/\nM choices 0 ((parents.length:Int)-1)):=by unfold dH;simp
 have NO:=aa no;clear no;by_cases h1:1<=choices.length
 ·have b1:decide ((0:Int)<choices.length)=true:=dtx (by omega);go_enter Tryz.func149,Tryz.ntmps149;go_wp2_with fail;refine(bW parents ap cp _ (i:Int) _ (SP.out.giI grr) (by unfold Fit;omega) (by simp[go_sem]) (by omega) (by omega)).mono ?_;rintro e w' ⟨rfl,rfl⟩;rw[PB.out];go_wp2_with fail;refine(aY high 0 4000000000 _).mono ?_;rintro e w' ⟨rfl,rfl⟩;rw[HB.out];go_wp2_with fail;refine(aY low 0 high _).mono ?_;rintro e w' ⟨rfl,rfl⟩;rw[LB.out];go_wp2_with fail;refine(sK choices ac cc 0 _ _ (SC.out.giI grr) hc (by unfold Fit;omega)).mono ?_;rintro e w' ⟨rfl,O1,D1,rfl⟩;go_wp2_with fail;go_ret;exact⟨ai (by(rw[decide_eq_decide,NO.out];exact⟨fun q=>⟨Ul q h1,h1,q⟩,fun q=>q.2.2⟩)),grr⟩
 have b1:decide ((0:Int)<choices.length)=false:=dfx (by omega);go_enter Tryz.func149,Tryz.ntmps149;go_wp2_with fail;refine(bW parents ap cp _ (i:Int) _ (SP.out.giI grr) (by unfold Fit;omega) (by simp[go_sem]) (by omega) (by omega)).mono ?_;rintro e w' ⟨rfl,rfl⟩;rw[PB.out];go_wp2_with fail;refine(aY high 0 4000000000 _).mono ?_;rintro e w' ⟨rfl,rfl⟩;rw[HB.out];go_wp2_with fail;refine(aY low 0 high _).mono ?_;rintro e w' ⟨rfl,rfl⟩;rw[LB.out];go_wp2_with fail;go_ret;exact⟨ai (by(rw[eq_comm,decide_eq_false_iff_not,NO.out];rintro⟨_,q,_⟩;exact h1 q)),grr⟩
theorem pv5(kind:Int)(parents choices:List Int)(low high:Int)(ap ac:Option Addr)(cp cc i:Nat)(w:World)(hp:parents.length<=cp)(hc:choices.length<=cc)(fp:parents.length<=8)(fc:choices.length<=8)(sp:ag 1 RI w ap parents)(sc:ag 1 RI w ac choices)(hi:i<=100)(PB:Hid (decide (nu parents (i:Int))=false))(HB:Hid (decide (0<=high/\high<=4000000000)=true))(LB:Hid (decide (0<=low/\low<=high)=true)):
  Calls Tryz.prog 149 #[.agg #[.int .i64 5,.slice ap parents.length cp,.slice ac choices.length cc,.int .i64 low,.int .i64 high],.int .i64 i] w (aN w (.bool (decide (dH ⟨5,parents,choices,low,high⟩)))):=by
 have SP:=aa sp;have SC:=aa sc;clear sp sc;have no:dH ⟨5,parents,choices,low,high⟩↔(parents.length=1/\choices= [0,1]):=by unfold dH;simp
 have NO:=aa no;clear no;by_cases h0:parents.length=1
 ·have b0:((parents.length:Int)==1)=true:=beq_iff_eq.2 (by omega);have H0:=aa h0;clear h0;go_enter Tryz.func149,Tryz.ntmps149;go_wp2_with fail;refine(bW parents ap cp _ (i:Int) _ (SP.out.giI grr) (by unfold Fit;omega) (by simp[go_sem]) (by omega) (by omega)).mono ?_;rintro e w' ⟨rfl,rfl⟩;rw[PB.out];go_wp2_with fail;refine(aY high 0 4000000000 _).mono ?_;rintro e w' ⟨rfl,rfl⟩;rw[HB.out];go_wp2_with fail;refine(aY low 0 high _).mono ?_;rintro e w' ⟨rfl,rfl⟩;rw[LB.out];go_wp2_with fail;refine(Mz choices ac cc _ _ (by simp) (SC.out.giI grr) (by unfold Fit;omega)).mono ?_;rintro e w' ⟨rfl,O1,D1,rfl⟩;go_wp2_with fail;go_ret;exact⟨ai (by(rw[decide_eq_decide,NO.out];exact⟨fun q=>⟨H0.out,q⟩,fun q=>q.2⟩)),grr⟩
 have b0:((parents.length:Int)==1)=false:=beq_eq_false_iff_ne.2 (by omega);have H0:=aa h0;clear h0;go_enter Tryz.func149,Tryz.ntmps149;go_wp2_with fail;refine(bW parents ap cp _ (i:Int) _ (SP.out.giI grr) (by unfold Fit;omega) (by simp[go_sem]) (by omega) (by omega)).mono ?_;rintro e w' ⟨rfl,rfl⟩;rw[PB.out];go_wp2_with fail;refine(aY high 0 4000000000 _).mono ?_;rintro e w' ⟨rfl,rfl⟩;rw[HB.out];go_wp2_with fail;refine(aY low 0 high _).mono ?_;rintro e w' ⟨rfl,rfl⟩;rw[LB.out];go_wp2_with fail;go_ret;exact⟨ai (by(rw[eq_comm,decide_eq_false_iff_not,NO.out];rintro⟨q,_⟩;exact H0.out q)),grr⟩
theorem pv0(kind:Int)(parents choices:List Int)(low high:Int)(ap ac:Option Addr)(cp cc i:Nat)(w:World)(hp:parents.length<=cp)(hc:choices.length<=cc)(fp:parents.length<=8)(fc:choices.length<=8)(sp:ag 1 RI w ap parents)(sc:ag 1 RI w ac choices)(hi:i<=100)(PB:Hid (decide (nu parents (i:Int))=false))(HB:Hid (decide (0<=high/\high<=4000000000)=true))(LB:Hid (decide (0<=low/\low<=high)=true))(k1:kind≠1)(k2:kind≠2)(k3:kind≠3)(k4:kind≠4)(k5:kind≠5):
  Calls Tryz.prog 149 #[.agg #[.int .i64 kind,.slice ap parents.length cp,.slice ac choices.length cc,.int .i64 low,.int .i64 high],.int .i64 i] w (aN w (.bool (decide (dH ⟨kind,parents,choices,low,high⟩)))):=by
 have SP:=aa sp;have SC:=aa sc;clear sp sc;have no:¬dH ⟨kind,parents,choices,low,high⟩:=by unfold dH;simp[k1,k2,k3,k4,k5]
 have NO:=aa no;have b1:(kind==1)=false:=by simp[k1]
 have b2:(kind==2)=false:=by simp[k2]
 have b3:(kind==3)=false:=by simp[k3]
 have b4:(kind==4)=false:=by simp[k4]
 have b5:(kind==5)=false:=by simp[k5]
 clear no k1 k2 k3 k4 k5;go_enter Tryz.func149,Tryz.ntmps149;go_wp2_with fail;refine(bW parents ap cp _ (i:Int) _ (SP.out.giI grr) (by unfold Fit;omega) (by simp[go_sem]) (by omega) (by omega)).mono ?_;rintro e w' ⟨rfl,rfl⟩;rw[PB.out];go_wp2_with fail;refine(aY high 0 4000000000 _).mono ?_;rintro e w' ⟨rfl,rfl⟩;rw[HB.out];go_wp2_with fail;refine(aY low 0 high _).mono ?_;rintro e w' ⟨rfl,rfl⟩;rw[LB.out];go_wp2_with fail;go_ret;exact⟨ai (by(rw[eq_comm,decide_eq_false_iff_not];exact NO.out)),grr⟩
theorem Qn(c:Clk)(ap ac:Option Addr)(cp cc i:Nat)(w:World)(hp:c.parents.length<=cp)(hc:c.choices.length<=cc)(fp:c.parents.length<=8)(fc:c.choices.length<=8)(sp:ag 1 RI w ap c.parents)(sc:ag 1 RI w ac c.choices)(hi:i<=100):
  Calls Tryz.prog 149 #[.agg #[.int .i64 c.kind,.slice ap c.parents.length cp,.slice ac c.choices.length cc,.int .i64 c.low,.int .i64 c.high],.int .i64 i] w (aN w (.bool (decide (qv c i)))):=by
 obtain⟨kind,parents,choices,low,high⟩:=c;by_cases hb:nu parents (i:Int)
 ·have:¬qv ⟨kind,parents,choices,low,high⟩ i:=fun q=>by
   obtain⟨j,hj,h⟩:=hb;have:=q.1 j hj;exact h ⟨this.1,by have:=this.2;simp only at this;omega⟩
  rw[dfx this];exact Xv kind parents choices low high ap ac cp cc i w hp hc fp fc sp sc hi (aa (dtx hb))
 have Ci:Pt ⟨kind,parents,choices,low,high⟩ i:=fun j hj=>by have:0<=parents[j]/\parents[j]<=(i:Int)-1:=Classical.byContradiction fun q=>hb ⟨j,hj,q⟩;exact⟨this.1,by show parents[j]<i;omega⟩
 by_cases hh:0<=high/\high<=4000000000
 ·by_cases hl:0<=low/\low<=high
  ·have e:decide (qv ⟨kind,parents,choices,low,high⟩ i)=decide (dH ⟨kind,parents,choices,low,high⟩):=by
    rw[decide_eq_decide];exact⟨fun q=>q.2.1,fun q=>⟨Ci,q,hl.1,hl.2,hh.2⟩⟩
   rw[e];have PB:=aa (dfx hb);have HB:=aa (dtx hh);have LB:=aa (dtx hl);by_cases k1:kind=1
   ·subst k1;exact pv1 1 parents choices low high ap ac cp cc i w hp hc fp fc sp sc hi PB HB LB
   by_cases k2:kind=2
   ·subst k2;exact pv2 2 parents choices low high ap ac cp cc i w hp hc fp fc sp sc hi PB HB LB
   by_cases k3:kind=3
   ·subst k3;exact pv3 3 parents choices low high ap ac cp cc i w hp hc fp fc sp sc hi PB HB LB
   by_cases k4:kind=4
   ·subst k4;exact pv4 4 parents choices low high ap ac cp cc i w hp hc fp fc sp sc hi PB HB LB
   by_cases k5:kind=5
   ·subst k5;exact pv5 5 parents choices low high ap ac cp cc i w hp hc fp fc sp sc hi PB HB LB
   exact pv0 kind parents choices low high ap ac cp cc i w hp hc fp fc sp sc hi PB HB LB k1 k2 k3 k4 k5
  have:¬qv ⟨kind,parents,choices,low,high⟩ i:=fun q=>hl ⟨q.2.2.1,q.2.2.2.1⟩;rw[dfx this];exact Xp kind parents choices low high ap ac cp cc i w hp hc fp fc sp sc hi (aa (dfx hb)) (aa (dtx hh)) (aa (dfx hl))
 have:¬qv ⟨kind,parents,choices,low,high⟩ i:=fun q=>hh ⟨Int.le_trans q.2.2.1 q.2.2.2.1,q.2.2.2.2⟩;rw[dfx this];exact Wg kind parents choices low high ap ac cp cc i w hp hc fp fc sp sc hi (aa (dfx hb)) (aa (dfx hh))
theorem Mu(c:Clk)(ap ac:Option Addr)(cp cc:Nat)(w:World)(fp:Fit c.parents.length)(fc:Fit c.choices.length):
  Calls Tryz.prog 148 #[.agg #[.int .i64 c.kind,.slice ap c.parents.length cp,.slice ac c.choices.length cc,.int .i64 c.low,.int .i64 c.high]] w (aN w (.bool (decide (ym c)))):=by
 unfold Fit at fp fc;by_cases h1:8<c.parents.length
 ·have HB:Hid (ym c):=aa (.inl h1);go_enter Tryz.func148,Tryz.ntmps148;go_wp2;go_ret;exact⟨ai (dtx HB.out).symm,(gfl _).alloc _⟩
 by_cases h2:8<c.choices.length
 ·have HB:Hid (ym c):=aa (.inr h2);go_enter Tryz.func148,Tryz.ntmps148;go_wp2;go_ret;exact⟨ai (by rw[dtx HB.out];simp;omega),(gfl _).alloc _⟩
 have HB:Hid (¬ym c):=aa (fun q=>q.elim h1 h2);go_enter Tryz.func148,Tryz.ntmps148;go_wp2;go_ret;exact⟨ai (by rw[dfx HB.out];simp;omega),(gfl _).alloc _⟩
def Ja(l:List Clk):Prop:=∃k,IQ l k
theorem Jr(l:List Clk)(ao:Option Addr)(cap:Nat)(w:World)(h:ag 5 cY w ao l)(hf:Fit l.length):
  Calls Tryz.prog 177 #[.slice ao l.length cap,.func (.func 148) #[] #[]] w fun e w'=>∃y:Int,e= .returned (.int .i64 y)/\(0<=y↔Ja l)/\Gr w w':=by
 unfold Fit at hf;have H:=aa h;clear h;go_enter Tryz.func177,Tryz.ntmps177;go_wp2;go_loopw [8] (fun i wr=>∃k:Nat,k<=l.length/\i= .int .i64 k/\(∀j,j<k->¬IQ l j)/\Gr w wr) (fun i _=>l.length-(intOf i).toNat);case atStart=>exact⟨0,Nat.zero_le _,rfl,fun j h=>absurd h (by omega),gfl _⟩
 case round=>
  obtain⟨k,hk,rfl,aH,hg⟩:=hrel;have HA:=aa aH;have HG:=aa hg;clear aH hg;obtain⟨wo,rfl⟩:∃wo:World,wo=wr:=⟨_,rfl⟩;by_cases aA:k<l.length
  ·obtain⟨b,o,rfl,⟨c0,_⟩,⟨ap,cp,c1,c1l,jQ,sp⟩,⟨ac,cc,c2,c2l,mB,sc⟩,⟨c4,_⟩,c5,_⟩:=bj H.out HG.out k aA;have cr:=Mu l[k] ap ac cp cc wo jQ mB;clear sp sc jQ mB;by_cases hq:ym l[k]
   ·rw[dtx hq] at cr;have Q:=aa hq;clear hq;go_wp2_with fail;refine cr.mono ?_;rintro e w' ⟨rfl,O,d,rfl⟩;go_wp2_with fail;go_ret;exact⟨k,rfl,⟨fun _=>⟨k,aA,Q.out⟩,fun _=>by omega⟩,HG.out.xt _ _⟩
   rw[dfx hq] at cr;have Q:=aa hq;clear hq;go_wp2_with fail;refine cr.mono ?_;rintro e w' ⟨rfl,O,d,rfl⟩;go_wp2_with fail;go_roundw;case rel=>
    refine⟨k+1,by omega,by go_num,fun j hj=>?_,HG.out.xt _ _⟩;by_cases e:j=k
    ·subst e;exact fun⟨_,q⟩=>Q.out q
    exact HA.out j (by omega)
   case measure=>simp[intOf];omega
  go_wp2;go_ret;exact⟨-1,rfl,⟨fun q=>by omega,fun⟨j,q⟩=>absurd q (HA.out j (by obtain⟨h1,_⟩:=q;omega))⟩,HG.out⟩
theorem wF(l:List Clk)(ao:Option Addr)(cap:Nat)(w:World)(h:ag 5 cY w ao l)(hf:Fit l.length):
  Calls Tryz.prog 147 #[.slice ao l.length cap,.func (.func 148) #[] #[]] w (aN w (.bool (decide (Ja l)))):=by
 have H:=aa h;have HF:=aa hf;clear h hf;go_enter Tryz.func147,Tryz.ntmps147;go_wp2_with fail;refine(Jr l ao cap w H.out HF.out).mono ?_;rintro e w' ⟨y,rfl,hy,hg⟩;have HY:=aa hy;have HG:=aa hg;clear hy hg;go_wp2_with fail;go_ret;exact⟨ai (by rw[decide_eq_decide];exact HY.out),HG.out⟩
def qE(l:List Clk)(k:Nat):List Int:=cb (l.take k)++List.replicate (l.length-k) 0
theorem Dk(l:List Clk)(k:Nat)(h:k<=l.length):(qE l k).length=l.length:=by simp only[qE,List.length_append,ln,List.length_take,List.length_replicate];omega
theorem TQ(l:List Clk)(k:Nat)(h:k<=l.length)(q:Nat)(hq:q<k):(qE l k)[q]'(by rw[Dk l k h];omega)=(cb (l.take k)).getD q 0:=by
 have hl:(cb (l.take k)).length=k:=by rw[ln,List.length_take];omega
 simp only[qE];rw[List.getElem_append_left (by omega),List.getD_eq_getElem?_getD,List.getElem?_eq_getElem (by omega)];rfl
theorem VX(l:List Clk)(k:Nat)(h:k<l.length):(qE l k)[k]'(by rw[Dk l k (by omega)];exact h)=0:=by
 have hl:(cb (l.take k)).length=k:=by rw[ln,List.length_take];omega
 simp only[qE];rw[List.getElem_append_right (by omega)];simp
theorem AO(l:List Clk)(k:Nat)(h:k<l.length)(x:Int)(hx:gF (cb (l.take k)) l[k]=x):(qE l k).set k x=qE l (k+1):=by
 have hl:(cb (l.take k)).length=k:=by rw[ln,List.length_take];omega
 have hr:List.replicate (l.length-k) (0:Int)=0::List.replicate (l.length-(k+1)) 0:=by rw[show l.length-k=(l.length-(k+1))+1 by omega,List.replicate_succ]
 simp only[qE];rw[List.set_append_right _ _ (by omega),hl,Nat.sub_self,hr,List.set_cons_zero,rp l k h,hx,List.append_assoc];rfl
theorem Iy(a b:List Clk):∀out,fu (a++b) out=fu b (fu a out):=by
 induction a with
 |nil=>intro out;rfl
 |cons c a ih=>intro out;simp only[List.cons_append,fu];exact ih _
theorem Pp(l:List Clk):∀out:List Int,∀x∈out,x∈fu l out:=by
 induction l with
 |nil=>intro out x hx;exact hx
 |cons c l ih=>intro out x hx;exact ih _ x (List.mem_append_left _ hx)
theorem tM{l:List Clk}(k:Nat){x:Int}(h:x∈cb (l.take k)):x∈cb l:=by
 have e:cb l=fu (l.drop k) (cb (l.take k)):=by
  conv=>lhs;rw[<-List.take_append_drop k l]
  exact Iy _ _ _
 rw[e];exact Pp _ _ _ h
theorem tw(n:Nat):(madeCells #[Value.int .i64 0] n).toList=List.replicate n (Value.int .i64 0):=by
 apply List.ext_getElem
 ·simp[madeCells]
 intro i h1 h2;simp[madeCells,Nat.mod_one]
theorem ni(l:List Clk)(ao:Option Addr)(cap:Nat)(w:World)(h:ag 5 cY w ao l)(hf:Fit l.length):
  Calls Tryz.prog 97 #[.slice ao l.length cap] w (aN w (.int .i64 (bA l))):=by
 have HF:=aa hf;unfold Fit at hf;have H:=aa h;clear h;by_cases hb:16<l.length
 ·rw[zk (.inl hb)];go_enter Tryz.func97,Tryz.ntmps97;go_wp2_with fail;go_ret;exact⟨rfl,gfl _⟩
 by_cases vE:Ja l
 ·have CB:=aa (zk (l:=l) (.inr vE));have HD:=aa (dtx vE);clear vE;go_enter Tryz.func97,Tryz.ntmps97;go_wp2_with fail;refine(wF l ao cap w H.out HF.out).mono ?_;rintro e w' ⟨rfl,O,d,rfl⟩;rw[HD.out];go_wp2_with fail;go_ret;exact⟨bO CB.out.symm,⟨O,d,rfl⟩⟩
 have NB:Hid (¬Big l):=aa (fun q=>q.elim hb vE);have HD:=aa (dfx vE);clear vE;have jV:=run_make_row' (P:=Tryz.prog) 22 3 (.int .i64 0) 8 Tryz.underlying22 eS rfl .i64 .i64 l.length (by omega) (by omega);go_enter Tryz.func97,Tryz.ntmps97;go_wp2_with fail;refine(wF l ao cap w H.out HF.out).mono ?_;rintro e w1 ⟨rfl,hg⟩;have HG:=aa hg;clear hg;rw[HD.out];go_wp2_with fail;go_loopw [20] (fun i wr=>∃k:Nat,k<=l.length/\i= .int .i64 k/\(∀j,j<k->Uf l j)/\Gr w wr) (fun i _=>l.length-(intOf i).toNat);case atStart=>exact⟨0,Nat.zero_le _,rfl,fun j h=>absurd h (by omega),HG.out⟩
 case round=>
  clear HG;obtain⟨k,hk,rfl,aH,hg⟩:=hrel;have HA:=aa aH;have HG:=aa hg;clear aH hg;obtain⟨wo,rfl⟩:∃wo:World,wo=wr:=⟨_,rfl⟩;by_cases aA:k<l.length
  ·obtain⟨b,o,rfl,⟨c0,_⟩,⟨ap,cp,c1,c1l,jQ,sp⟩,⟨ac,cc,c2,c2l,mB,sc⟩,⟨c4,_⟩,c5,_⟩:=bj H.out HG.out k aA;obtain⟨fp,fc⟩:=fR NB.out aA;have cr:=fun W (hW:Gr wo W)=>Qn l[k] ap ac cp cc k W c1l c2l fp fc (sp.giI hW) (sc.giI hW) (by omega);have HC:=aa cr;clear sp sc jQ mB cr;by_cases hok:qv l[k] k
   ·have HD':=aa (dtx hok);have OK:=aa hok;clear hok;go_wp2_with fail;refine(HC.out _ grr).mono ?_;rintro e w' ⟨rfl,O,d,rfl⟩;rw[HD'.out];go_wp2_with fail;go_roundw;case rel=>
     refine⟨k+1,by omega,by go_num,fun j hj=>?_,gri HG.out⟩;by_cases e:j=k
     ·subst e;exact⟨aA,OK.out⟩
     exact HA.out j (by omega)
    case measure=>simp[intOf];omega
   have HD':=aa (dfx hok);have CB:=aa (yq NB.out (Ew aA hok));clear hok;go_wp2_with fail;refine(HC.out _ grr).mono ?_;rintro e w' ⟨rfl,O,d,rfl⟩;rw[HD'.out];go_wp2_with fail;go_ret;exact⟨bO CB.out.symm,gri HG.out⟩
  have OK:Hid (rK l):=aa fun j hj=>HA.out j (by omega);clear HA;go_wp2_with fail;obtain⟨W2,hW2⟩:∃W2:World,Hid (W2=wo.alloc (.cells (madeCells #[.int .i64 0] l.length) 3)):=⟨_,aa rfl⟩;rw[<-hW2.out];obtain⟨FB,hFB⟩:∃FB:Nat,Hid (wo.heap.size=FB):=⟨_,aa rfl⟩;rw[hFB.out];have F2:Hid (Row W2 FB 3 (an (qE l 0))):=aa (by
   rw[hW2.out,<-hFB.out];have:=Row.new wo (madeCells #[.int .i64 0] l.length) 3;have e:(madeCells #[.int .i64 0] l.length).toList=an (qE l 0):=by simp only[qE,List.take_zero,cb,fu,List.nil_append,Nat.sub_zero,an,List.map_replicate];exact tw _
   rwa [e] at this)
  have HG2:Hid (Gr w W2):=aa (by rw[hW2.out];exact HG.out.alloc _);have fb:Hid (w.heap.size<=FB):=aa (by rw[<-hFB.out];exact HG.out.size);clear jV hW2 hFB HG;go_loopw [5,35] (fun s i wr=>∃k:Nat,k<=l.length/\i= .int .i64 k/\s= .int .i64 (bF (l.take k))/\bF (l.take k)<=4096/\(∀x∈cb (l.take k),x<=4)/\Row wr FB 3 (an (qE l k))/\Gr w wr) (fun _ i _=>l.length-(intOf i).toNat);case atStart=>exact⟨0,Nat.zero_le _,rfl,rfl,by simp[bF],by simp[cb,fu],F2.out,HG2.out⟩
  case round=>
   clear F2 HG2;obtain⟨k,hk,rfl,rfl,Cl,hfs,fe,hg⟩:=hrel;have FS:=aa hfs;have HR:=aa fe;have HG:=aa hg;clear hfs fe hg;obtain⟨P,hP⟩:∃P:Nat,Hid (bF (l.take k)=P):=⟨_,aa rfl⟩;rw[hP.out] at Cl ⊢;obtain⟨wo,rfl⟩:∃wo:World,wo=wr:=⟨_,rfl⟩;by_cases aA:k<l.length
   ·obtain⟨b,o,rfl,⟨c0,_⟩,⟨ap,cp,c1,c1l,jQ,sp⟩,⟨ac,cc,c2,c2l,mB,sc⟩,⟨c4,_⟩,c5,_⟩:=H.out k aA;obtain⟨fp,fc⟩:=fR NB.out aA;obtain⟨_,Bb,hcho,_⟩:=OK.out k aA;have PAR:=aa Bb;have POS:=Ga hcho;have SP:=aa sp;have d0:=aB HG.out c0;have d1:=aB HG.out c1;have d2:=aB HG.out c2;have d4:=aB HG.out c4;have d5:=aB HG.out c5;clear Bb hcho sp sc jQ mB c0 c1 c2 c4 c5;go_wp2_with fail;obtain⟨W3,hW3⟩:∃W3:World,Hid (W3=wo.alloc (.cells #[.int .i64 l[k].kind,.slice ap l[k].parents.length cp,.slice ac l[k].choices.length cc,.int .i64 l[k].low,.int .i64 l[k].high] 130)):=⟨_,aa rfl⟩;rw[<-hW3.out];obtain⟨B8,hB8⟩:∃B8:Nat,Hid (wo.heap.size=B8):=⟨_,aa rfl⟩;rw[hB8.out];have RB:Hid (Row W3 B8 130 [.int .i64 l[k].kind,.slice ap l[k].parents.length cp,.slice ac l[k].choices.length cc,.int .i64 l[k].low,.int .i64 l[k].high]):=aa (by rw[hW3.out,<-hB8.out];exact Row.new wo _ _);have R3:Hid (Row W3 FB 3 (an (qE l k))):=aa (by rw[hW3.out];exact HR.out.alloc _);have HG3:Hid (Gr w W3):=aa (by rw[hW3.out];exact HG.out.alloc _);have b8:Hid (FB<B8):=aa (by rw[<-hB8.out];exact HR.out.has);have VL:=aa (Dk l k hk);clear hW3 hB8 HR HG d0 d1 d2 d4 d5;go_loopw [43] (fun j wi=>∃m:Nat,m<=l[k].parents.length/\j= .int .i64 m/\Row wi FB 3 (an ((qE l k).set k (jN (cb (l.take k)) (l[k].parents.take m) 0)))/\Row wi B8 130 [.int .i64 l[k].kind,.slice ap l[k].parents.length cp,.slice ac l[k].choices.length cc,.int .i64 l[k].low,.int .i64 l[k].high]/\Gr w wi) (fun j _=>l[k].parents.length-(intOf j).toNat);case atStart=>exact⟨0,Nat.zero_le _,rfl,by simp only[List.take_zero,jN];rw[kG _ _ (by rw[VL.out];exact aA) _ (VX l k aA)];exact R3.out,RB.out,HG3.out⟩
    case round=>
     clear R3 RB HG3;obtain⟨m,hm,rfl,hr,Hl,hg⟩:=hrel;have HR:=aa hr;have HX:=aa Hl;have HG:=aa hg;clear hr Hl hg;obtain⟨wi,rfl⟩:∃wi:World,wi=wr:=⟨_,rfl⟩;by_cases kL:m<l[k].parents.length
     ·obtain⟨p1,p2⟩:=PAR.out m kL;obtain⟨bp,op,rfl,⟨q1,_⟩⟩:=(SP.out.giI HG.out).one m kL;obtain⟨q,hq⟩:∃q:Nat,l[k].parents[m]=q:=⟨_,(Int.toNat_of_nonneg p1).symm⟩;rw[hq] at q1 p2;have Ig:q<k:=(by omega);obtain⟨x,hx⟩:∃x,jN (cb (l.take k)) (l[k].parents.take m) 0=x:=⟨_,rfl⟩;rw[hx] at HR;have e1:=HR.out.iat k (by rw[List.length_set,VL.out];exact aA);have e2:=HR.out.iat q (by rw[List.length_set,VL.out];omega);rw[List.getElem_set_self] at e1;rw[List.getElem_set_ne (by omega),TQ l k hk q Ig] at e2;obtain⟨y,hy⟩:∃y,(cb (l.take k)).getD q 0=y:=⟨_,rfl⟩;rw[hy] at e2;have e3:=HR.out.free k;have eh:=HR.out.has;have HM:=aa (FI (cb (l.take k)) l[k].parents m kL 0);rw[hx,hq,Int.toNat_natCast,hy] at HM;have lk:(k:Int)<l.length:=(by omega);have lq:(q:Int)<l.length:=(by omega);have HQ:=aa hq;clear hx hy;have fin:∀z:Int,z=max x y->∀W,Gr wi W->Row (W.setCell ⟨FB,k,none⟩ (.int .i64 z)) FB 3 (an ((qE l k).set k (jN (cb (l.take k)) (l[k].parents.take (m+1)) 0))):=fun z hz W hW=>by
       have:=(HR.out.gr hW).iset k z;rw[List.set_set] at this;rw[HM.out,<-hz];exact this
      have FIN:=aa fin;clear fin;rcases Int.lt_or_le x y with Ie|Ie;all_goals
       go_wp2_with fail;go_region;all_goals
        go_wp2_with fail;go_roundw;case rel=>exact⟨m+1,by omega,by go_num,FIN.out _ (by omega) _ grr,(HX.out.drew).oth (by have:=b8.out;omega),(HG.out.drew).setc fb.out⟩
        case measure=>simp[intOf];omega
     obtain rfl:m=l[k].parents.length:=by omega
     obtain⟨x,hx⟩:∃x,jN (cb (l.take k)) l[k].parents 0=x:=⟨_,rfl⟩;rw[List.take_length,hx] at HR;have FBd:=tf (l.take k);have nb:=su (cb (l.take k)) k (fun y hy=>by have:=FBd y hy;rw[List.length_take] at this;omega) (by omega) l[k].parents 0 (by omega) (by omega);rw[hx] at nb;have HFS:Hid (gF (cb (l.take k)) l[k]=x+ir l[k]):=aa (by rw[gF,hx]);have e1:=HR.out.iat k (by rw[List.length_set,VL.out];exact aA);rw[List.getElem_set_self] at e1;have e3:=HR.out.free k;have eh:=HR.out.has;have r0:=HX.out.cell 0 (by simp);have r2:=HX.out.cell 2 (by simp);have rh:=HX.out.has;simp only[List.getElem_cons_zero,List.getElem_cons_succ] at r0 r2;have lk:(k:Int)<l.length:=(by omega);have pl0:0<=(P:Int)*l[k].choices.length:=Int.mul_nonneg (by omega) (by omega);have pl1:(P:Int)*l[k].choices.length<=4096*8:=Int.mul_le_mul (by omega) (by omega) (by omega) (by omega);have b8':=b8.out;clear hx FBd;by_cases h2:l[k].kind=2
     ·have b2:(l[k].kind==2)=true:=(by simp[h2]);have hf:ir l[k]=1:=(by simp[ir,h2]);have HF:=aa hf;clear h2 hf;have hz:=AO l k aA (x+1) (by rw[HFS.out,HF.out]);have FZ:Hid (cb (l.take (k+1))=cb (l.take k)++ [x+1]):=aa (by rw[rp l k aA,HFS.out,HF.out]);have HZ:=aa hz;clear hz;have PZ:Hid (bF (l.take (k+1))=P*l[k].choices.length):=aa (by rw[ql l k aA,hP.out]);by_cases hb1:4096<(P:Int)*l[k].choices.length
      ·have CM:=aa (mN NB.out OK.out (fun q=>by
        have h1:=nB (qe OK.out) (k+1);have h2:=PZ.out;have h3:((P*l[k].choices.length:Nat):Int)=(P:Int)*l[k].choices.length:=Int.natCast_mul _ _;omega))
       go_wp2_with fail;go_ret;exact⟨bO CM.out.symm,HG.out.setc fb.out⟩
      by_cases px:4<x+1
      ·have CM:=aa (mN NB.out OK.out (fun q=>by
        have h1:=q.2 (x+1) (tM (k+1) (by rw[FZ.out];simp));omega))
       go_wp2_with fail;go_ret;exact⟨bO CM.out.symm,HG.out.setc fb.out⟩
      go_wp2_with fail;go_roundw;case rel=>
       refine⟨k+1,by omega,by go_num,by rw[PZ.out,Int.natCast_mul],?_,?_,?_,HG.out.setc fb.out⟩
       ·have h2:=PZ.out;have h3:((P*l[k].choices.length:Nat):Int)=(P:Int)*l[k].choices.length:=Int.natCast_mul _ _;omega
       ·intro y hy;rw[FZ.out] at hy;rcases List.mem_append.1 hy with q|q
        ·exact FS.out y q
        rw[List.mem_singleton.1 q];omega
       rw[<-HZ.out];have:=HR.out.iset k (x+1);rw[List.set_set] at this;exact this
      case measure=>simp[intOf];omega
     by_cases h3:l[k].kind=3
     ·have b2:(l[k].kind==2)=false:=(by simp[h2]);have b3:(l[k].kind==3)=true:=(by simp[h3]);have hf:ir l[k]=1:=(by simp[ir,h3]);have HF:=aa hf;clear h2 h3 hf;have hz:=AO l k aA (x+1) (by rw[HFS.out,HF.out]);have FZ:Hid (cb (l.take (k+1))=cb (l.take k)++ [x+1]):=aa (by rw[rp l k aA,HFS.out,HF.out]);have HZ:=aa hz;clear hz;have PZ:Hid (bF (l.take (k+1))=P*l[k].choices.length):=aa (by rw[ql l k aA,hP.out]);by_cases hb1:4096<(P:Int)*l[k].choices.length
      ·have CM:=aa (mN NB.out OK.out (fun q=>by
        have h1:=nB (qe OK.out) (k+1);have h2:=PZ.out;have h3:((P*l[k].choices.length:Nat):Int)=(P:Int)*l[k].choices.length:=Int.natCast_mul _ _;omega))
       go_wp2_with fail;go_ret;exact⟨bO CM.out.symm,HG.out.setc fb.out⟩
      by_cases px:4<x+1
      ·have CM:=aa (mN NB.out OK.out (fun q=>by
        have h1:=q.2 (x+1) (tM (k+1) (by rw[FZ.out];simp));omega))
       go_wp2_with fail;go_ret;exact⟨bO CM.out.symm,HG.out.setc fb.out⟩
      go_wp2_with fail;go_roundw;case rel=>
       refine⟨k+1,by omega,by go_num,by rw[PZ.out,Int.natCast_mul],?_,?_,?_,HG.out.setc fb.out⟩
       ·have h2:=PZ.out;have h3:((P*l[k].choices.length:Nat):Int)=(P:Int)*l[k].choices.length:=Int.natCast_mul _ _;omega
       ·intro y hy;rw[FZ.out] at hy;rcases List.mem_append.1 hy with q|q
        ·exact FS.out y q
        rw[List.mem_singleton.1 q];omega
       rw[<-HZ.out];have:=HR.out.iset k (x+1);rw[List.set_set] at this;exact this
      case measure=>simp[intOf];omega
     have b2:(l[k].kind==2)=false:=(by simp[h2]);have b3:(l[k].kind==3)=false:=(by simp[h3]);have hf:ir l[k]=0:=(by simp[ir,h2,h3]);have HF:=aa hf;clear h2 h3 hf;have hz:=AO l k aA (x) (by rw[HFS.out,HF.out,Int.add_zero]);have FZ:Hid (cb (l.take (k+1))=cb (l.take k)++ [x]):=aa (by rw[rp l k aA,HFS.out,HF.out,Int.add_zero]);have HZ:=aa hz;clear hz;have PZ:Hid (bF (l.take (k+1))=P*l[k].choices.length):=aa (by rw[ql l k aA,hP.out]);by_cases hb1:4096<(P:Int)*l[k].choices.length
     ·have CM:=aa (mN NB.out OK.out (fun q=>by
       have h1:=nB (qe OK.out) (k+1);have h2:=PZ.out;have h3:((P*l[k].choices.length:Nat):Int)=(P:Int)*l[k].choices.length:=Int.natCast_mul _ _;omega))
      go_wp2_with fail;go_ret;exact⟨bO CM.out.symm,HG.out⟩
     by_cases px:4<x
     ·have CM:=aa (mN NB.out OK.out (fun q=>by
       have h1:=q.2 (x) (tM (k+1) (by rw[FZ.out];simp));omega))
      go_wp2_with fail;go_ret;exact⟨bO CM.out.symm,HG.out⟩
     go_wp2_with fail;go_roundw;case rel=>
      refine⟨k+1,by omega,by go_num,by rw[PZ.out,Int.natCast_mul],?_,?_,?_,HG.out⟩
      ·have h2:=PZ.out;have h3:((P*l[k].choices.length:Nat):Int)=(P:Int)*l[k].choices.length:=Int.natCast_mul _ _;omega
      ·intro y hy;rw[FZ.out] at hy;rcases List.mem_append.1 hy with q|q
       ·exact FS.out y q
       rw[List.mem_singleton.1 q];omega
      rw[<-HZ.out];exact HR.out
     case measure=>simp[intOf];omega
   obtain rfl:k=l.length:=by omega
   rw[List.take_length] at hP FS;have hz:=aa (Bt NB.out OK.out (by rw[hP.out];exact Cl) FS.out);go_wp2_with fail;go_ret;exact⟨bO hz.out.symm,HG.out⟩
end Go.Proofs.YtlmhkjdkcoiioaaGreatDoor
