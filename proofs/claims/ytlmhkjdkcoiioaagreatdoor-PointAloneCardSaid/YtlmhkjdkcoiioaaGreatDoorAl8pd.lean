/- Lemmas and contracts for the proof of PointAlone (several texts in one, printed by wip/tools/pack.py): Ke. -/
import Derived.Test.YtlmhkjdkcoiioaaGreatDoorAl8pb
import Derived.Test.YtlmhkjdkcoiioaaGreatDoorAl8pc
set_option maxRecDepth 100000
set_option maxHeartbeats 16000000
set_option linter.unusedVariables false
set_option linter.unusedSimpArgs false
namespace Go.Proofs.YtlmhkjdkcoiioaaGreatDoor
open Go.RowKit
open Classical
structure Clk where
 kind:Int
 parents:List Int
 choices:List Int
 low:Int
 high:Int
structure Lmt where
 clock:Int
 low:Int
 high:Int
def cY(w:World)(b o:Nat)(c:Clk):Prop:=RI w b o c.kind/\RSl 1 RI w b (o+1) c.parents/\RSl 1 RI w b (o+2) c.choices/\RI w b (o+3) c.low/\RI w b (o+4) c.high
def lQ(w:World)(b o:Nat)(x:Lmt):Prop:=RI w b o x.clock/\RI w b (o+1) x.low/\RI w b (o+2) x.high
theorem cY.mono:oA cY:=fun _ _ _ _ _ hg ⟨h0,h1,h2,h3,h4⟩=>⟨RI.mono _ _ _ _ _ hg h0,RSl.mono RI.mono _ _ _ _ _ hg h1,RSl.mono RI.mono _ _ _ _ _ hg h2,RI.mono _ _ _ _ _ hg h3,RI.mono _ _ _ _ _ hg h4⟩
theorem lQ.mono:oA lQ:=fun _ _ _ _ _ hg ⟨h0,h1,h2⟩=>⟨RI.mono _ _ _ _ _ hg h0,RI.mono _ _ _ _ _ hg h1,RI.mono _ _ _ _ _ hg h2⟩
theorem bj{w w':World}{ao:Option Addr}{xs:List Clk}(h:ag 5 cY w ao xs)(hg:Gr w w'):ag 5 cY w' ao xs:=h.gr cY.mono hg
theorem iR{w w':World}{ao:Option Addr}{xs:List Lmt}(h:ag 3 lQ w ao xs)(hg:Gr w w'):ag 3 lQ w' ao xs:=h.gr lQ.mono hg
theorem Vv{α:Type}{xs ys:List α}(k:Nat)(hx:k<xs.length)(hy:k<ys.length)(h:xs[k]≠ys[k]):xs≠ys:=by rintro rfl;exact h rfl
theorem Sd{α:Type}{xs ys:List α}(hl:xs.length=ys.length)(h:∀j (hx:j<xs.length) (hy:j<ys.length),xs[j]=ys[j]):xs=ys:=
 List.ext_getElem hl fun i h1 h2=>h i h1 h2
def J5(xs:List Int)(lo hi:Int)(j:Nat):Prop:=∃h:j<xs.length,lo<=xs[j]/\xs[j]<=hi/\xs[j]∉xs.take j
def nM(xs:List Int)(lo hi:Int):Prop:=∀j,j<xs.length->J5 xs lo hi j
def Pt(c:Clk)(i:Nat):Prop:=∀j (h:j<c.parents.length),0<=c.parents[j]/\c.parents[j]<i
def dH(c:Clk):Prop:=
 (c.kind=1/\c.parents.length=0/\∃h:c.choices.length=1,1<=c.choices[0]/\c.choices[0]<=4000000000)∨
 ((c.kind=2∨c.kind=3)/\c.parents.length=1/\1<=c.choices.length/\nM c.choices 1 64)∨
 (c.kind=4/\1<=c.parents.length/\1<=c.choices.length/\nM c.choices 0 ((c.parents.length:Int)-1))∨
 (c.kind=5/\c.parents.length=1/\c.choices= [0,1])
def Ql(c:Clk):Prop:=0<=c.low/\c.low<=c.high/\c.high<=4000000000
def qv(c:Clk)(i:Nat):Prop:=Pt c i/\dH c/\Ql c
def ym(c:Clk):Prop:=8<c.parents.length∨8<c.choices.length
def IQ(l:List Clk)(k:Nat):Prop:=∃h:k<l.length,ym l[k]
def Big(l:List Clk):Prop:=16<l.length∨∃k,IQ l k
def Uf(l:List Clk)(k:Nat):Prop:=∃h:k<l.length,qv l[k] k
def rK(l:List Clk):Prop:=∀k,k<l.length->Uf l k
def bF:List Clk->Nat
 | []=>1
 |c::l=>c.choices.length*bF l
def ir(c:Clk):Int:=if c.kind=2∨c.kind=3 then 1 else 0
def jN(out:List Int):List Int->Int->Int
 | [],n=>n
 |p::ps,n=>jN out ps (max n (out.getD p.toNat 0))
def gF(out:List Int)(c:Clk):Int:=jN out c.parents 0+ir c
def fu:List Clk->List Int->List Int
 | [],out=>out
 |c::l,out=>fu l (out++ [gF out c])
def cb(l:List Clk):List Int:=fu l []
noncomputable def bA(l:List Clk):Int:=
 if Big l then 3 else if rK l then(if bF l<=4096/\∀x∈cb l,x<=4 then 0 else 3) else 1
theorem zk{l:List Clk}(h:Big l):bA l=3:=by simp[bA,h]
theorem yq{l:List Clk}(h:¬Big l)(k:¬rK l):bA l=1:=by simp[bA,h,k]
theorem Bt{l:List Clk}(h:¬Big l)(k:rK l)(q:bF l<=4096)(r:∀x∈cb l,x<=4):bA l=0:=by unfold bA;rw[if_neg h,if_pos k,if_pos ⟨q,r⟩]
theorem mN{l:List Clk}(h:¬Big l)(k:rK l)(q:¬(bF l<=4096/\∀x∈cb l,x<=4)):bA l=3:=by unfold bA;rw[if_neg h,if_pos k,if_neg q]
theorem bm{l:List Clk}(h:bA l=0):¬Big l/\rK l/\bF l<=4096/\∀x∈cb l,x<=4:=by
 unfold bA at h;split at h
 ·omega
 split at h
 ·split at h
  ·rename_i a b c;exact⟨a,b,c⟩
  omega
 omega
theorem Sv(l:List Clk):0<=bA l/\bA l<=3:=by unfold bA;split<;>(try split)<;>(try split)<;>omega
theorem Ew{l:List Clk}{k:Nat}(hk:k<l.length)(h:¬qv l[k] k):¬rK l:=fun ha=>by obtain⟨_,hs⟩:=ha k hk;exact h hs
theorem cg{l:List Clk}(h:¬Big l):l.length<=16:=Nat.le_of_not_lt fun q=>h (.inl q)
theorem fR{l:List Clk}(h:¬Big l){k:Nat}(hk:k<l.length):l[k].parents.length<=8/\l[k].choices.length<=8:=by
 constructor
 ·exact Nat.le_of_not_lt fun q=>h (.inr ⟨k,hk,.inl q⟩)
 exact Nat.le_of_not_lt fun q=>h (.inr ⟨k,hk,.inr q⟩)
theorem PY(l:List Clk):∀out,(fu l out).length=out.length+l.length:=by
 induction l with
 |nil=>intro out;simp[fu]
 |cons c l ih=>intro out;rw[fu,ih];simp;omega
theorem ln(l:List Clk):(cb l).length=l.length:=by simp[cb,PY]
theorem Mg(l:List Clk)(c:Clk):∀out,fu (l++ [c]) out=fu l out++ [gF (fu l out) c]:=by
 induction l with
 |nil=>intro out;simp[fu]
 |cons d l ih=>intro out;simp only[List.cons_append,fu];exact ih _
theorem Sj(l:List Clk)(c:Clk):cb (l++ [c])=cb l++ [gF (cb l) c]:=Mg l c []
theorem qN{α:Type}(l:List α)(k:Nat)(h:k<l.length):l.take (k+1)=l.take k++ [l[k]]:=by rw[List.take_succ_eq_append_getElem h]
theorem rp(l:List Clk)(k:Nat)(h:k<l.length):cb (l.take (k+1))=cb (l.take k)++ [gF (cb (l.take k)) l[k]]:=by rw[qN l k h,Sj]
theorem zq(l:List Clk)(c:Clk):bF (l++ [c])=bF l*c.choices.length:=by
 induction l with
 |nil=>simp[bF]
 |cons d l ih=>simp only[List.cons_append,bF,ih,Nat.mul_assoc]
theorem ql(l:List Clk)(k:Nat)(h:k<l.length):bF (l.take (k+1))=bF (l.take k)*l[k].choices.length:=by rw[qN l k h,zq]
theorem Jl(l m:List Clk):bF (l++m)=bF l*bF m:=by
 induction l with
 |nil=>simp[bF]
 |cons d l ih=>simp only[List.cons_append,bF,ih,Nat.mul_assoc]
theorem Ga{c:Clk}(h:dH c):1<=c.choices.length:=by
 rcases h with⟨_,_,h,_⟩|⟨_,_,h,_⟩|⟨_,_,h,_⟩|⟨_,_,h⟩
 ·omega
 ·exact h
 ·exact h
 rw[h];simp
theorem Su{l:List Clk}(h:∀c∈l,1<=c.choices.length):1<=bF l:=by
 induction l with
 |nil=>simp[bF]
 |cons c l ih=>have h1:=h c (by simp);have h2:=ih (fun d hd=>h d (by simp[hd]));exact Nat.mul_pos h1 h2
theorem nB{l:List Clk}(h:∀c∈l,1<=c.choices.length)(k:Nat):bF (l.take k)<=bF l:=by
 have e:bF l=bF (l.take k)*bF (l.drop k):=by rw[<-Jl,List.take_append_drop]
 have:=Su (l:=l.drop k) (fun c hc=>h c (List.mem_of_mem_drop hc));rw[e];exact Nat.le_mul_of_pos_right _ this
theorem qe{l:List Clk}(h:rK l):∀c∈l,1<=c.choices.length:=by intro c hc;obtain⟨k,hk,rfl⟩:=List.getElem_of_mem hc;obtain⟨_,h1,h2,_⟩:=h k hk;exact Ga h2
def aI(l:List Clk)(s:List Int):Prop:=s.length=l.length/\∀k (h:k<l.length) (h':k<s.length),0<=s[k]/\s[k]<l[k].choices.length
def lF(l:List Clk)(x:Lmt):Prop:=0<=x.clock/\x.clock<l.length/\0<=x.low/\x.low<=x.high/\x.high<=4000000000
def fC(l:List Clk)(m:List Lmt):Prop:=bA l=0/\m.length<=32/\∀k (h:k<m.length),lF l m[k]
theorem Lk(xs:List Int)(a:Option Addr)(cap:Nat)(x:Int)(w:World)(hx:ag 1 RI w a xs)(fx:Fit xs.length):
  Calls Tryz.prog 154 #[.slice a xs.length cap,.int .i64 x] w fun e w'=>e= .returned (.bool (decide (x∈xs)))/\w=w':=by
 unfold Fit at fx;have HX:=aa hx;clear hx;go_enter Tryz.func154,Tryz.ntmps154;go_wp2;go_loop [5] (fun i=>∃k:Nat,k<=xs.length/\i= .int .i64 k/\(∀j (h:j<xs.length),j<k->xs[j]≠x)) (fun i=>xs.length-(intOf i).toNat);case atStart=>exact⟨0,Nat.zero_le _,rfl,fun j _ h=>absurd h (by omega)⟩
 case round=>
  obtain⟨k,hk,rfl,aH⟩:=hrel;have HA:=aa aH;clear aH;by_cases aA:k<xs.length
  ·obtain⟨bx,ox,rfl,⟨c1,_⟩⟩:=HX.out.one k aA;by_cases he:xs[k]=x
   ·have Fu:(xs[k]==x)=true:=(by simp[he]);have HE:=aa he;clear he;go_wp2;go_ret;exact⟨ai (by have:=List.getElem_mem aA;rw[HE.out] at this;simp[this]),rfl⟩
   have Fu:(xs[k]==x)=false:=by simp[he]
   have HE:=aa he;clear he;go_wp2;go_round;case rel=>
    refine⟨k+1,by omega,by go_num,fun j h1 hj=>?_⟩;by_cases e:j=k
    ·subst e;exact HE.out
    exact HA.out j h1 (by omega)
   case measure=>simp[intOf];omega
  go_wp2;go_ret;refine⟨ai ?_,rfl⟩;have:x∉xs:=by intro hm;obtain⟨j,hj,e⟩:=List.getElem_of_mem hm;exact HA.out j hj (by omega) e
  simp[this]
theorem Lm(xs ys:List Int)(ax ay:Option Addr)(cx cy:Nat)(w:World)(hx:ag 1 RI w ax xs)(hy:ag 1 RI w ay ys)(fx:Fit xs.length)(_fy:Fit ys.length):
  Calls Tryz.prog 33 #[.slice ax xs.length cx,.slice ay ys.length cy] w (aN w (.bool (decide (xs=ys)))):=by
 unfold Fit at fx;have HX:=aa hx;have HY:=aa hy;clear hx hy;by_cases hl:xs.length=ys.length
 ·have hlb:((xs.length:Int) !=(ys.length:Int))=false:=by simp[hl]
  have HL:=aa hl;clear hl;go_enter Tryz.func33,Tryz.ntmps33;go_wp2;go_loopw [5] (fun i wr=>∃k:Nat,k<=xs.length/\i= .int .i64 k/\(∀j (h1:j<xs.length) (h2:j<ys.length),j<k->xs[j]=ys[j])/\∃n,wr=w.drewN n) (fun i _=>xs.length-(intOf i).toNat);case atStart=>exact⟨0,Nat.zero_le _,rfl,fun j _ _ h=>absurd h (by omega),0,rfl⟩
  case round=>
   obtain⟨k,hk,rfl,aH,n,rfl⟩:=hrel;have HA:=aa aH;clear aH;by_cases aA:k<xs.length
   ·have fj:k<ys.length:=(by have:=HL.out;omega);obtain⟨bx,ox,rfl,⟨c1,_⟩⟩:=HX.out.one k aA;obtain⟨by',oy,rfl,⟨c2,_⟩⟩:=HY.out.one k fj;by_cases he:xs[k]=ys[k]
    ·have Fu:(xs[k] !=ys[k])=false:=(by simp[he]);have HE:=aa he;clear he;go_wp2
     go_quiet (fail)
     go_wp2;go_roundw;case rel=>
      refine⟨k+1,by omega,by go_num,fun j h1 h2 hj=>?_,n+nq,by simp⟩;by_cases e:j=k
      ·subst e;exact HE.out
      exact HA.out j h1 h2 (by omega)
     case measure=>simp[intOf];omega
    have Fu:(xs[k] !=ys[k])=true:=(by simp[he]);have HE:=aa he;clear he;go_wp2
    go_quiet (fail)
    go_wp2;go_ret;exact⟨ai (by simp[Vv k aA fj HE.out]),grr⟩
   go_wp2;go_ret;exact⟨ai (by simp[Sd HL.out (fun j h1 h2=>HA.out j h1 h2 (by omega))]),grr⟩
 have hlb:((xs.length:Int) !=(ys.length:Int))=true:=by simp;omega
 go_enter Tryz.func33,Tryz.ntmps33;go_wp2;go_ret;exact⟨ai (by simp;intro h;exact hl (by rw[h])),gfl _⟩
theorem ag.take{w:World}{a:Option Addr}{xs:List Int}(h:ag 1 RI w a xs)(k:Nat):ag 1 RI w a (xs.take k):=by
 intro j hj;have qH:j<xs.length:=by have:=List.length_take_le' k xs;omega
 obtain⟨b,o,e,q⟩:=h j qH;exact⟨b,o,e,by rw[List.getElem_take];exact q⟩
theorem re(xs:List Int)(a:Option Addr)(cap:Nat)(lo hi:Int)(w:World)(hx:ag 1 RI w a xs)(hc:xs.length<=cap)(fx:Fit xs.length):
  Calls Tryz.prog 176 #[.slice a xs.length cap,.int .i64 lo,.int .i64 hi] w (aN w (.bool (decide (nM xs lo hi)))):=by
 have FX:=aa fx;unfold Fit at fx;have HX:=aa hx;clear hx;go_enter Tryz.func176,Tryz.ntmps176;go_wp2;go_loopw [11] (fun i wr=>∃k:Nat,k<=xs.length/\i= .int .i64 k/\(∀j,j<k->J5 xs lo hi j)/\Gr w wr) (fun i _=>xs.length-(intOf i).toNat);case atStart=>exact⟨0,Nat.zero_le _,rfl,fun j h=>absurd h (by omega),gfl _⟩
 case round=>
  obtain⟨k,hk,rfl,aH,hg⟩:=hrel;have HA:=aa aH;have HG:=aa hg;clear aH hg;obtain⟨wo,rfl⟩:∃wo:World,wo=wr:=⟨_,rfl⟩;by_cases aA:k<xs.length
  ·obtain⟨bx,ox,rfl,⟨c1,_⟩⟩:=(HX.out.giI HG.out).one k aA;have lt':(xs.take k).length=k:=by simp;omega
   have LT:=aa lt';clear lt';have g0:(k:Int)<=cap:=by omega
   by_cases h1:lo<=xs[k]
   ·by_cases h2:xs[k]<=hi
    ·go_wp2_with fail;have:=Lk (xs.take k) (some ⟨bx,ox,none⟩) cap xs[k] wo ((HX.out.giI HG.out).take k) (by unfold Fit;have:=LT.out;omega);rw[LT.out] at this;refine this.mono ?_;rintro e w' ⟨rfl,rfl⟩;by_cases hm:xs[k]∈xs.take k
     ·have hd:decide (xs[k]∈xs.take k)=true:=(by simpa using hm);rw[hd];clear hd;have HM:=aa hm;clear hm;go_wp2_with fail;go_ret;refine⟨ai ?_,HG.out⟩;have:¬nM xs lo hi:=fun q=>by obtain⟨_,_,_,q3⟩:=q k aA;exact q3 HM.out
      simp[this]
     have hd:decide (xs[k]∈xs.take k)=false:=(by simpa using hm);rw[hd];clear hd;have HM:=aa hm;clear hm;go_wp2_with fail;go_roundw;case rel=>
      refine⟨k+1,by omega,by go_num,fun j hj=>?_,HG.out⟩;by_cases e:j=k
      ·subst e;exact⟨aA,h1,h2,HM.out⟩
      exact HA.out j (by omega)
     case measure=>simp[intOf];omega
    go_wp2_with fail;go_ret;refine⟨ai ?_,HG.out⟩;have:¬nM xs lo hi:=fun q=>by obtain⟨_,_,q2,_⟩:=q k aA;omega
    simp[this]
   go_wp2_with fail;go_ret;refine⟨ai ?_,HG.out⟩;have:¬nM xs lo hi:=fun q=>by obtain⟨_,q1,_⟩:=q k aA;omega
   simp[this]
  go_wp2_with fail;go_ret;refine⟨ai ?_,HG.out⟩;have:nM xs lo hi:=fun j hj=>HA.out j (by omega);simp[this]
theorem eS:(Tryz.prog.info? 3).map (fun i=>(i.zero,i.size,i.bytes))=some (some (.int .i64 0),1,8):=by kernel_rfl
theorem Xf(w:World)(xs:List Int)(T:TypeId)(hw:∀x∈xs,aK x):ag 1 RI (w.alloc (.cells (an xs).toArray T)) (some ⟨w.heap.size,0,none⟩) xs:=by intro k hk;refine⟨_,0,rfl,?_,hw _ (List.getElem_mem hk)⟩;have:=(Row.new w (an xs).toArray T).cell k (by simpa [an] using hk);rw[Nat.mul_one,Nat.zero_add,this];simp[an]
theorem Vn(w:World)(T:TypeId):ag 1 RI (w.alloc (.cells #[.int .i64 0,.int .i64 1] T)) (some ⟨w.heap.size,0,none⟩) [0,1]:=Xf w [0,1] T (by simp[aK])
theorem Pn(xs:List Int)(ax:Option Addr)(cx:Nat)(W:World)(B:Nat)(hB:W.heap.size=B)(hx:ag 1 RI W ax xs)(fx:Fit xs.length):
  Calls Tryz.prog 33 #[.slice ax xs.length cx,.slice (some ⟨B,0,none⟩) 2 2] (W.alloc (.cells #[.int .i64 0,.int .i64 1] 3)) (aN (W.alloc (.cells #[.int .i64 0,.int .i64 1] 3)) (.bool (decide (xs= [0,1])))):=by
 subst hB;exact Lm xs [0,1] ax (some ⟨W.heap.size,0,none⟩) cx 2 _ (hx.giI ((gfl _).alloc _)) (Vn _ _) fx (by unfold Fit;simp)
theorem UQ(kind:Int)(parents choices:List Int)(low high:Int)(ap ac:Option Addr)(cp cc:Nat)(w:World)(hp:parents.length<=cp)(hc:choices.length<=cc)(fp:parents.length<=8)(fc:choices.length<=8)(sp:ag 1 RI w ap parents)(sc:ag 1 RI w ac choices):
  Calls Tryz.prog 144 #[.agg #[.int .i64 1,.slice ap parents.length cp,.slice ac choices.length cc,.int .i64 low,.int .i64 high]] w (aN w (.bool (decide (dH ⟨1,parents,choices,low,high⟩)))):=by
 have SC:=aa sc;clear sp sc;have no:dH ⟨1,parents,choices,low,high⟩↔(parents.length=0/\∃h:choices.length=1,1<=choices[0]/\choices[0]<=4000000000):=by unfold dH;simp
 have NO:=aa no;clear no;by_cases h0:parents.length=0
 ·have b0:((parents.length:Int)==0)=true:=by simp[h0]
  have H0:=aa h0;clear h0;by_cases h1:choices.length=1
  ·obtain⟨x,rfl⟩:∃x,choices= [x]:=List.length_eq_one_iff.1 h1;clear h1;obtain⟨bc,oc,rfl,⟨q,_⟩⟩:=SC.out.one 0 (by simp);have qh:=ae q;simp only[List.getElem_cons_zero,List.length_cons,List.length_nil,Nat.zero_add,Nat.add_zero] at q ⊢;by_cases x1:1<=x
   ·by_cases x2:x<=4000000000
    ·go_enter Tryz.func144,Tryz.ntmps144;go_wp2_with fail;go_ret;exact⟨ai (by(rw[NO.out];simp[H0.out,x1,x2])),grr⟩
    go_enter Tryz.func144,Tryz.ntmps144;go_wp2_with fail;go_ret;exact⟨ai (by(rw[NO.out];simp[H0.out];omega)),grr⟩
   go_enter Tryz.func144,Tryz.ntmps144;go_wp2_with fail;go_ret;exact⟨ai (by(rw[NO.out];simp[H0.out];omega)),grr⟩
  have b1:((choices.length:Int)==1)=false:=beq_eq_false_iff_ne.2 (by omega);have H1:=aa h1;clear h1;go_enter Tryz.func144,Tryz.ntmps144;go_wp2_with fail;go_ret;exact⟨ai (by(rw[NO.out];simp[H0.out,H1.out])),grr⟩
 have b0:((parents.length:Int)==0)=false:=beq_eq_false_iff_ne.2 (by omega);have H0:=aa h0;clear h0;go_enter Tryz.func144,Tryz.ntmps144;go_wp2_with fail;go_ret;exact⟨ai (by(rw[NO.out];simp[H0.out])),grr⟩
theorem TZ(kind:Int)(parents choices:List Int)(low high:Int)(ap ac:Option Addr)(cp cc:Nat)(w:World)(hp:parents.length<=cp)(hc:choices.length<=cc)(fp:parents.length<=8)(fc:choices.length<=8)(sp:ag 1 RI w ap parents)(sc:ag 1 RI w ac choices):
  Calls Tryz.prog 144 #[.agg #[.int .i64 2,.slice ap parents.length cp,.slice ac choices.length cc,.int .i64 low,.int .i64 high]] w (aN w (.bool (decide (dH ⟨2,parents,choices,low,high⟩)))):=by
 have SC:=aa sc;clear sp sc;have no:dH ⟨2,parents,choices,low,high⟩↔(parents.length=1/\1<=choices.length/\nM choices 1 64):=by unfold dH;simp
 have NO:=aa no;clear no;by_cases h0:parents.length=1
 ·have b0:((parents.length:Int)==1)=true:=by simp[h0]
  have H0:=aa h0;clear h0;by_cases h1:1<=choices.length
  ·have b1:decide ((1:Int)<=choices.length)=true:=by simp;omega
   go_enter Tryz.func144,Tryz.ntmps144;go_wp2_with fail;refine(re choices ac cc 1 64 _ (SC.out.giI grr) hc (by unfold Fit;omega)).mono ?_;rintro e w' ⟨rfl,O1,D1,rfl⟩;go_wp2_with fail;go_ret;exact⟨ai (by(rw[NO.out];simp[H0.out,h1])),grr⟩
  have b1:decide ((1:Int)<=choices.length)=false:=by simp;omega
  go_enter Tryz.func144,Tryz.ntmps144;go_wp2_with fail;go_ret;exact⟨ai (by(rw[NO.out];simp;omega)),grr⟩
 have b0:((parents.length:Int)==1)=false:=beq_eq_false_iff_ne.2 (by omega);have H0:=aa h0;clear h0;go_enter Tryz.func144,Tryz.ntmps144;go_wp2_with fail;go_ret;exact⟨ai (by(rw[NO.out];simp[H0.out])),grr⟩
theorem UH(kind:Int)(parents choices:List Int)(low high:Int)(ap ac:Option Addr)(cp cc:Nat)(w:World)(hp:parents.length<=cp)(hc:choices.length<=cc)(fp:parents.length<=8)(fc:choices.length<=8)(sp:ag 1 RI w ap parents)(sc:ag 1 RI w ac choices):
  Calls Tryz.prog 144 #[.agg #[.int .i64 3,.slice ap parents.length cp,.slice ac choices.length cc,.int .i64 low,.int .i64 high]] w (aN w (.bool (decide (dH ⟨3,parents,choices,low,high⟩)))):=by
 have SC:=aa sc;clear sp sc;have no:dH ⟨3,parents,choices,low,high⟩↔(parents.length=1/\1<=choices.length/\nM choices 1 64):=by unfold dH;simp
 have NO:=aa no;clear no;by_cases h0:parents.length=1
 ·have b0:((parents.length:Int)==1)=true:=by simp[h0]
  have H0:=aa h0;clear h0;by_cases h1:1<=choices.length
  ·have b1:decide ((1:Int)<=choices.length)=true:=by simp;omega
   go_enter Tryz.func144,Tryz.ntmps144;go_wp2_with fail;refine(re choices ac cc 1 64 _ (SC.out.giI grr) hc (by unfold Fit;omega)).mono ?_;rintro e w' ⟨rfl,O1,D1,rfl⟩;go_wp2_with fail;go_ret;exact⟨ai (by(rw[NO.out];simp[H0.out,h1])),grr⟩
  have b1:decide ((1:Int)<=choices.length)=false:=by simp;omega
  go_enter Tryz.func144,Tryz.ntmps144;go_wp2_with fail;go_ret;exact⟨ai (by(rw[NO.out];simp;omega)),grr⟩
 have b0:((parents.length:Int)==1)=false:=beq_eq_false_iff_ne.2 (by omega);have H0:=aa h0;clear h0;go_enter Tryz.func144,Tryz.ntmps144;go_wp2_with fail;go_ret;exact⟨ai (by(rw[NO.out];simp[H0.out])),grr⟩
theorem UM(kind:Int)(parents choices:List Int)(low high:Int)(ap ac:Option Addr)(cp cc:Nat)(w:World)(hp:parents.length<=cp)(hc:choices.length<=cc)(fp:parents.length<=8)(fc:choices.length<=8)(sp:ag 1 RI w ap parents)(sc:ag 1 RI w ac choices):
  Calls Tryz.prog 144 #[.agg #[.int .i64 4,.slice ap parents.length cp,.slice ac choices.length cc,.int .i64 low,.int .i64 high]] w (aN w (.bool (decide (dH ⟨4,parents,choices,low,high⟩)))):=by
 have SC:=aa sc;clear sp sc;have no:dH ⟨4,parents,choices,low,high⟩↔(1<=parents.length/\1<=choices.length/\nM choices 0 ((parents.length:Int)-1)):=by unfold dH;simp
 have NO:=aa no;clear no;by_cases h0:1<=parents.length
 ·have b0:decide ((1:Int)<=parents.length)=true:=by simp;omega
  by_cases h1:1<=choices.length
  ·have b1:decide ((1:Int)<=choices.length)=true:=by simp;omega
   go_enter Tryz.func144,Tryz.ntmps144;go_wp2_with fail;refine(re choices ac cc 0 _ _ (SC.out.giI grr) hc (by unfold Fit;omega)).mono ?_;rintro e w' ⟨rfl,O1,D1,rfl⟩;go_wp2_with fail;go_ret;exact⟨ai (by(rw[NO.out];simp[h0,h1])),grr⟩
  have b1:decide ((1:Int)<=choices.length)=false:=by simp;omega
  go_enter Tryz.func144,Tryz.ntmps144;go_wp2_with fail;go_ret;exact⟨ai (by(rw[NO.out];simp;omega)),grr⟩
 have b0:decide ((1:Int)<=parents.length)=false:=by simp;omega
 go_enter Tryz.func144,Tryz.ntmps144;go_wp2_with fail;go_ret;exact⟨ai (by(rw[NO.out];simp;omega)),grr⟩
theorem Tz(kind:Int)(parents choices:List Int)(low high:Int)(ap ac:Option Addr)(cp cc:Nat)(w:World)(hp:parents.length<=cp)(hc:choices.length<=cc)(fp:parents.length<=8)(fc:choices.length<=8)(sp:ag 1 RI w ap parents)(sc:ag 1 RI w ac choices):
  Calls Tryz.prog 144 #[.agg #[.int .i64 5,.slice ap parents.length cp,.slice ac choices.length cc,.int .i64 low,.int .i64 high]] w (aN w (.bool (decide (dH ⟨5,parents,choices,low,high⟩)))):=by
 have SC:=aa sc;clear sp sc;have no:dH ⟨5,parents,choices,low,high⟩↔(parents.length=1/\choices= [0,1]):=by unfold dH;simp
 have NO:=aa no;clear no;by_cases h0:parents.length=1
 ·have b0:((parents.length:Int)==1)=true:=by simp[h0]
  have H0:=aa h0;clear h0;go_enter Tryz.func144,Tryz.ntmps144;go_wp2_with fail;refine(Pn choices ac cc _ _ (by simp) (SC.out.giI grr) (by unfold Fit;omega)).mono ?_;rintro e w' ⟨rfl,O1,D1,rfl⟩;go_wp2_with fail;go_ret;exact⟨ai (by(rw[NO.out];simp[H0.out])),grr⟩
 have b0:((parents.length:Int)==1)=false:=beq_eq_false_iff_ne.2 (by omega);have H0:=aa h0;clear h0;go_enter Tryz.func144,Tryz.ntmps144;go_wp2_with fail;go_ret;exact⟨ai (by(rw[NO.out];simp[H0.out])),grr⟩
theorem Tx(kind:Int)(parents choices:List Int)(low high:Int)(ap ac:Option Addr)(cp cc:Nat)(w:World)(k1:kind≠1)(k2:kind≠2)(k3:kind≠3)(k4:kind≠4)(k5:kind≠5)(hp:parents.length<=cp)(hc:choices.length<=cc)(fp:parents.length<=8)(fc:choices.length<=8)(sp:ag 1 RI w ap parents)(sc:ag 1 RI w ac choices):
  Calls Tryz.prog 144 #[.agg #[.int .i64 kind,.slice ap parents.length cp,.slice ac choices.length cc,.int .i64 low,.int .i64 high]] w (aN w (.bool (decide (dH ⟨kind,parents,choices,low,high⟩)))):=by
 have SC:=aa sc;clear sp sc;have no:¬dH ⟨kind,parents,choices,low,high⟩:=by unfold dH;simp[k1,k2,k3,k4,k5]
 have NO:=aa no;have b1:(kind==1)=false:=by simp[k1]
 have b2:(kind==2)=false:=by simp[k2]
 have b3:(kind==3)=false:=by simp[k3]
 have b4:(kind==4)=false:=by simp[k4]
 have b5:(kind==5)=false:=by simp[k5]
 clear no k1 k2 k3 k4 k5;go_enter Tryz.func144,Tryz.ntmps144;go_wp2_with fail;go_ret;exact⟨ai (by(simp[NO.out])),grr⟩
theorem sJ(c:Clk)(ap ac:Option Addr)(cp cc:Nat)(w:World)(hp:c.parents.length<=cp)(hc:c.choices.length<=cc)(fp:c.parents.length<=8)(fc:c.choices.length<=8)(sp:ag 1 RI w ap c.parents)(sc:ag 1 RI w ac c.choices):
  Calls Tryz.prog 144 #[.agg #[.int .i64 c.kind,.slice ap c.parents.length cp,.slice ac c.choices.length cc,.int .i64 c.low,.int .i64 c.high]] w (aN w (.bool (decide (dH c)))):=by
 obtain⟨kind,parents,choices,low,high⟩:=c;by_cases k1:kind=1
 ·subst k1;exact UQ 1 parents choices low high ap ac cp cc w hp hc fp fc sp sc
 by_cases k2:kind=2
 ·subst k2;exact TZ 2 parents choices low high ap ac cp cc w hp hc fp fc sp sc
 by_cases k3:kind=3
 ·subst k3;exact UH 3 parents choices low high ap ac cp cc w hp hc fp fc sp sc
 by_cases k4:kind=4
 ·subst k4;exact UM 4 parents choices low high ap ac cp cc w hp hc fp fc sp sc
 by_cases k5:kind=5
 ·subst k5;exact Tz 5 parents choices low high ap ac cp cc w hp hc fp fc sp sc
 exact Tx kind parents choices low high ap ac cp cc w k1 k2 k3 k4 k5 hp hc fp fc sp sc
theorem Fw(out:List Int)(p:Int):∀(ps:List Int) (n:Int),jN out (ps++ [p]) n=max (jN out ps n) (out.getD p.toNat 0)
 | [],n=>rfl
 |q::ps,n=>by simp only[List.cons_append,jN];exact Fw out p ps _
theorem FI(out ps:List Int)(m:Nat)(h:m<ps.length)(n:Int):jN out (ps.take (m+1)) n=max (jN out (ps.take m) n) (out.getD ps[m].toNat 0):=by rw[List.take_succ_eq_append_getElem h,Fw]
theorem su(out:List Int)(N:Int)(ho:∀x∈out,0<=x/\x<=N)(hN:0<=N):∀(ps:List Int) (n:Int),0<=n->n<=N->0<=jN out ps n/\jN out ps n<=N
 | [],n,h0,h1=>⟨h0,h1⟩
 |p::ps,n,h0,h1=>by
  simp only[jN];have:0<=out.getD p.toNat 0/\out.getD p.toNat 0<=N:=by
   rw[List.getD_eq_getElem?_getD];rcases Nat.lt_or_ge p.toNat out.length with q|q
   ·rw[List.getElem?_eq_getElem q];exact ho _ (List.getElem_mem q)
   rw[List.getElem?_eq_none q];exact⟨Int.le_refl 0,hN⟩
  exact su out N ho hN ps _ (by omega) (by omega)
theorem IM(l:List Clk):∀out:List Int,(∀x∈out,0<=x/\x<=(out.length:Int))->∀x∈fu l out,0<=x/\x<=(out.length:Int)+l.length:=by
 induction l with
 |nil=>intro out h x hx;have:=h x hx;simpa [fu] using this
 |cons c l ih=>
  intro out h x hx;have hb:=su out out.length h (by omega) c.parents 0 (by omega) (by omega);have hs:0<=gF out c/\gF out c<=(out.length:Int)+1:=by unfold gF ir;split<;>omega
  have:=ih (out++ [gF out c]) (by
   intro y hy;simp only[List.length_append,List.length_cons,List.length_nil];rcases List.mem_append.1 hy with q|q
   ·have:=h y q;omega
   rw[List.mem_singleton.1 q];omega) x (by simpa [fu] using hx)
  simp only[List.length_append,List.length_cons,List.length_nil] at this ⊢;omega
theorem tf(l:List Clk):∀x∈cb l,0<=x/\x<=(l.length:Int):=by intro x hx;have:=IM l [] (by simp) x hx;simpa using this
theorem US{w:World}{base k:Nat}{v:Value}{xs:List Int}(h:w.ownsRow base 3 1 v k (an xs))(hl:xs.length=k)(q:Nat)(hq:q<k):∃g cap,v= .slice (some ⟨g,0,none⟩) k cap/\w.cell? ⟨g,q,none⟩=some (.int .i64 (xs.getD q 0)):=by obtain⟨g,cap,e,_,_,hc⟩:=fM h (by omega);refine⟨g,cap,e,?_⟩;rw[hc q (by omega),an,List.getElem?_map,List.getElem?_eq_getElem (by omega),List.getD_eq_getElem?_getD,List.getElem?_eq_getElem (by omega)];rfl
theorem Gp(l:List Clk)(ao:Option Addr)(cap:Nat)(w:World)(h:ag 5 cY w ao l)(hb:¬Big l)(hok:rK l):
  Calls Tryz.prog 145 #[.slice ao l.length cap] w (Da w 3 (an (cb l))):=by
 have H:=aa h;have gO:=cg hb;have HB:=aa hb;have OK:=aa hok;clear h hb hok;obtain⟨i0,hi,dt,da,cN⟩:=info_parts eS;go_enter Tryz.func145,Tryz.ntmps145;go_wp2;go_loopw [3,11] (fun s i wr=>∃k:Nat,k<=l.length/\i= .int .i64 k/\wr.ownsRow w.heap.size 3 1 s k (an (cb (l.take k)))/\Gr w wr) (fun _ i _=>l.length-(intOf i).toNat);case atStart=>exact⟨0,Nat.zero_le _,rfl,by simpa [cb,fu,an] using World.ownsRow_nil w w.heap.size 3 1,gfl _⟩
 case round=>
  obtain⟨k,hk,rfl,ho,hg⟩:=hrel;have HO:=aa ho;have HG:=aa hg;obtain⟨a3,c3,rfl⟩:=be ho;clear ho hg;obtain⟨wo,rfl⟩:∃wo:World,wo=wr:=⟨_,rfl⟩;by_cases aA:k<l.length
  ·obtain⟨b,o,rfl,⟨c0,_⟩,⟨ap,cp,c1,c1l,jQ,sp⟩,⟨ac,cc,c2,c2l,mB,sc⟩,⟨c4,_⟩,c5,_⟩:=bj H.out HG.out k aA;obtain⟨fp,fc⟩:=fR HB.out aA;obtain⟨_,Bb,_,_⟩:=OK.out k aA;have PAR:=aa Bb;have SP:=aa sp;have FL:Hid ((cb (l.take k)).length=k):=aa (by rw[ln,List.length_take];omega);have FB:Hid (∀x∈cb (l.take k),0<=x/\x<=(k:Int)):=aa fun x hx=>by have:=tf (l.take k) x hx;rw[List.length_take] at this;omega
   clear Bb sp sc jQ mB;go_wp2;obtain⟨W2,hW2⟩:∃W2:World,Hid (W2=wo.alloc (.cells #[.int .i64 l[k].kind,.slice ap l[k].parents.length cp,.slice ac l[k].choices.length cc,.int .i64 l[k].low,.int .i64 l[k].high] 130)):=⟨_,aa rfl⟩;rw[<-hW2.out];obtain⟨B2,hB2⟩:∃B2:Nat,Hid (wo.heap.size=B2):=⟨_,aa rfl⟩;rw[hB2.out];have HO2:Hid (W2.ownsRow w.heap.size 3 1 (.slice a3 k c3) k (an (cb (l.take k)))):=aa (by rw[hW2.out];exact HO.out.alloc _);have SP2:Hid (ag 1 RI W2 ap l[k].parents):=aa (by rw[hW2.out];exact SP.out.giI ((gfl _).alloc _));have HG2:Hid (Gr w W2):=aa (by rw[hW2.out];exact HG.out.alloc _);have RB:Hid (Row W2 B2 130 [.int .i64 l[k].kind,.slice ap l[k].parents.length cp,.slice ac l[k].choices.length cc,.int .i64 l[k].low,.int .i64 l[k].high]):=aa (by rw[hW2.out,<-hB2.out];exact Row.new wo _ _);have r0:=RB.out.cell 0 (by simp);have rh:=RB.out.has;simp only[List.getElem_cons_zero] at r0;clear hW2 hB2 SP HO HG c0 c1 c2 c4 c5 RB;go_loop [6,18] (fun n j=>∃m:Nat,m<=l[k].parents.length/\j= .int .i64 m/\n= .int .i64 (jN (cb (l.take k)) (l[k].parents.take m) 0)) (fun _ j=>l[k].parents.length-(intOf j).toNat);case atStart=>exact⟨0,Nat.zero_le _,rfl,by simp[jN]⟩
   case round=>
    obtain⟨m,hm,rfl,rfl⟩:=hrel;have nb:=su (cb (l.take k)) k FB.out (by omega) (l[k].parents.take m) 0 (by omega) (by omega);obtain⟨x,hx⟩:∃x,jN (cb (l.take k)) (l[k].parents.take m) 0=x:=⟨_,rfl⟩;rw[hx] at nb ⊢;have HX:=aa hx;clear hx;by_cases kL:m<l[k].parents.length
    ·obtain⟨p1,p2⟩:=PAR.out m kL;obtain⟨bp,op,rfl,⟨q1,_⟩⟩:=SP2.out.one m kL;obtain⟨q,hq⟩:=Int.eq_ofNat_of_zero_le p1;rw[hq] at q1 p2;obtain⟨g,cap',e,q2⟩:=US HO2.out FL.out q (by omega);cases e
     obtain⟨y,hy⟩:∃y,(cb (l.take k)).getD q 0=y:=⟨_,rfl⟩;rw[hy] at q2;have HQ:=aa hq;have HY:=aa hy;clear hy;have lq:(q:Int)<k:=(by omega);go_wp2;all_goals
      go_round;case rel=>refine⟨m+1,by omega,by go_num,?_⟩;rw[FI _ _ _ kL,HX.out,HQ.out,Int.toNat_natCast,HY.out];first|rfl|(rw[Int.max_def];split<;>first|rfl|(congr 1;omega))
      case measure=>simp[intOf];omega
    obtain rfl:m=l[k].parents.length:=by omega
    rw[List.take_length] at HX;have hfs:gF (cb (l.take k)) l[k]=x+ir l[k]:=(by rw[gF,HX.out]);have HFS:=aa hfs;clear hfs;have FK:Hid (cb (l.take (k+1))=cb (l.take k)++ [x+ir l[k]]):=aa (by rw[rp l k aA,HFS.out]);clear HFS;have fin:∀(W w1:World) (row:Option Nat) (y:Int),y=x+ir l[k]->w1.ownsRow w.heap.size 3 1 (.slice none 0 0) 0 []->True:=fun _ _ _ _ _ _=>trivial;clear fin;by_cases h2:l[k].kind=2
    ·have b2:(l[k].kind==2)=true:=(by simp[h2]);have hf:ir l[k]=1:=(by simp[ir,h2]);have HF:=aa hf;clear h2 hf;go_wp2_with (at_builtin;refine wpList_append_own _ rfl _ _ 22 rfl w.heap.size 3 i0 (.int .i64 0) 1 8 Tryz.underlying22 hi dt da cN rfl (by decide) _ k (an (cb (l.take k))) rfl (HO2.out.alloc _) ⟨W2.heap.size,0,none⟩ 1 1 (an [x+1]) rfl rfl (cell_one_new _ _ _) (gL _) (by unfold maxLen;omega) (by omega) (by have:=HG2.out.size;simp;omega) ?_;intro v' w1 bI aE eJ);have HW:=aa bI;have HGr:=aa aE;clear bI aE eJ;go_roundw;case rel=>
      refine⟨k+1,by omega,by go_num,?_,?_⟩
      ·have:=HW.out;rw[FK.out,HF.out];simpa [an] using this
      exact(HG2.out.alloc _).grown HGr.out (fun j e=>(HO2.out.lt j e).1)
     case measure=>simp[intOf];omega
    by_cases h3:l[k].kind=3
    ·have b2:(l[k].kind==2)=false:=(by simp[h2]);have b3:(l[k].kind==3)=true:=(by simp[h3]);have hf:ir l[k]=1:=(by simp[ir,h3]);have HF:=aa hf;clear h2 h3 hf;go_wp2_with (at_builtin;refine wpList_append_own _ rfl _ _ 22 rfl w.heap.size 3 i0 (.int .i64 0) 1 8 Tryz.underlying22 hi dt da cN rfl (by decide) _ k (an (cb (l.take k))) rfl (HO2.out.alloc _) ⟨W2.heap.size,0,none⟩ 1 1 (an [x+1]) rfl rfl (cell_one_new _ _ _) (gL _) (by unfold maxLen;omega) (by omega) (by have:=HG2.out.size;simp;omega) ?_;intro v' w1 bI aE eJ);have HW:=aa bI;have HGr:=aa aE;clear bI aE eJ;go_roundw;case rel=>
      refine⟨k+1,by omega,by go_num,?_,?_⟩
      ·have:=HW.out;rw[FK.out,HF.out];simpa [an] using this
      exact(HG2.out.alloc _).grown HGr.out (fun j e=>(HO2.out.lt j e).1)
     case measure=>simp[intOf];omega
    have b2:(l[k].kind==2)=false:=(by simp[h2]);have b3:(l[k].kind==3)=false:=(by simp[h3]);have hf:ir l[k]=0:=(by simp[ir,h2,h3]);have HF:=aa hf;clear h2 h3 hf;go_wp2_with (at_builtin;refine wpList_append_own _ rfl _ _ 22 rfl w.heap.size 3 i0 (.int .i64 0) 1 8 Tryz.underlying22 hi dt da cN rfl (by decide) _ k (an (cb (l.take k))) rfl (HO2.out.alloc _) ⟨W2.heap.size,0,none⟩ 1 1 (an [x]) rfl rfl (cell_one_new _ _ _) (gL _) (by unfold maxLen;omega) (by omega) (by have:=HG2.out.size;simp;omega) ?_;intro v' w1 bI aE eJ);have HW:=aa bI;have HGr:=aa aE;clear bI aE eJ;go_roundw;case rel=>
     refine⟨k+1,by omega,by go_num,?_,?_⟩
     ·have:=HW.out;rw[FK.out,HF.out];simpa [an] using this
     exact(HG2.out.alloc _).grown HGr.out (fun j e=>(HO2.out.lt j e).1)
    case measure=>simp[intOf];omega
  obtain rfl:k=l.length:=by omega
  obtain⟨a,c,e,hc,h1⟩:=fX HO.out;cases e
  have H1:=aa h1;clear h1;go_wp2;go_ret;refine⟨a3,c3,by rw[dp,ln];rfl,by rw[dp,ln];exact hc,?_,HG.out⟩;have:=H1.out;rwa [List.take_length] at this
def pm(a:Nat):Int:=((min a 1099511627776:Nat):Int)
theorem Wj(a n:Nat)(h:1<=n):min (pm a*n) 1099511627776=pm (a*n):=by
 unfold pm;rcases Nat.le_total a 1099511627776 with q|q
 ·rw[Nat.min_eq_left q];have e:((a*n:Nat):Int)=(a:Int)*n:=Int.natCast_mul a n;rw[<-e];omega
 rw[Nat.min_eq_right q];have h1:a<=a*n:=Nat.le_mul_of_pos_right _ h;have h2:(1099511627776:Int)*1<=1099511627776*n:=Int.mul_le_mul_of_nonneg_left (by omega) (by omega);rw[Nat.min_eq_right (Nat.le_trans q h1)];have e2:((1099511627776:Nat):Int)=1099511627776:=rfl;rw[e2];omega
theorem Tn(a:Nat):0<=pm a/\pm a<=1099511627776:=by unfold pm;omega
theorem Ob(a:Nat):4096<pm a↔4096<a:=by unfold pm;omega
theorem j4(l:List Clk)(ao:Option Addr)(cap:Nat)(w:World)(h:ag 5 cY w ao l)(hf:Fit l.length):
  Calls Tryz.prog 90 #[.slice ao l.length cap] w (aN w (.int .i64 (bA l))):=by
 unfold Fit at hf;have H:=aa h;clear h;by_cases hb:16<l.length
 ·rw[zk (.inl hb)];go_enter Tryz.func90,Tryz.ntmps90;go_wp2;go_ret;exact⟨rfl,gfl _⟩
 go_enter Tryz.func90,Tryz.ntmps90;go_wp2;go_loopw [17] (fun i wr=>∃k:Nat,k<=l.length/\i= .int .i64 k/\(∀j,j<k->¬IQ l j)/\Gr w wr) (fun i _=>l.length-(intOf i).toNat);case atStart=>exact⟨0,Nat.zero_le _,rfl,fun j h=>absurd h (by omega),gfl _⟩
 case round=>
  obtain⟨k,hk,rfl,aH,hg⟩:=hrel;have HA:=aa aH;have HG:=aa hg;clear aH hg;obtain⟨wo,rfl⟩:∃wo:World,wo=wr:=⟨_,rfl⟩;by_cases aA:k<l.length
  ·obtain⟨b,o,rfl,⟨c0,_⟩,⟨ap,cp,c1,c1l,_,_⟩,⟨ac,cc,c2,c2l,_,_⟩,⟨c4,_⟩,c5,_⟩:=bj H.out HG.out k aA;by_cases hB:8<l[k].parents.length∨8<l[k].choices.length
   ·have HBg:=aa (zk (l:=l) (.inr ⟨k,aA,hB⟩));rcases hB with hB|hB
    ·go_wp2;go_ret;exact⟨bO HBg.out.symm,gri HG.out⟩
    by_cases hB2:8<l[k].parents.length;all_goals
     go_wp2;go_ret;exact⟨bO HBg.out.symm,gri HG.out⟩
   have q1:l[k].parents.length<=8:=by omega
   have q2:l[k].choices.length<=8:=by omega
   clear hB;go_wp2;go_roundw;case rel=>
    refine⟨k+1,by omega,by go_num,fun j hj=>?_,gri HG.out⟩;by_cases e:j=k
    ·subst e;rintro⟨_,h⟩;unfold ym at h;omega
    exact HA.out j (by omega)
   case measure=>simp[intOf];omega
  have hNB:¬Big l:=by
   rintro(h|⟨j,h⟩)
   ·omega
   exact HA.out j (by obtain⟨h1,_⟩:=h;omega) h
  have NB:=aa hNB;clear HA hNB;go_wp2;go_loopw [5,34] (fun s i wr=>∃k:Nat,k<=l.length/\i= .int .i64 k/\s= .int .i64 (pm (bF (l.take k)))/\(∀j,j<k->Uf l j)/\Gr w wr) (fun _ i _=>l.length-(intOf i).toNat);case atStart=>exact⟨0,Nat.zero_le _,rfl,rfl,fun j h=>absurd h (by omega),HG.out⟩
  case round=>
   clear HG;obtain⟨k,hk,rfl,rfl,aH,hg⟩:=hrel;have HA:=aa aH;have HG:=aa hg;clear aH hg;obtain⟨x,hx⟩:∃x,pm (bF (l.take k))=x:=⟨_,rfl⟩;have xb:=Tn (bF (l.take k));rw[hx] at xb ⊢;have HX:=aa hx;clear hx;obtain⟨wo,rfl⟩:∃wo:World,wo=wr:=⟨_,rfl⟩;by_cases aA:k<l.length
   ·obtain⟨b,o,rfl,⟨c0,w0⟩,⟨ap,cp,c1,c1l,jQ,sp⟩,⟨ac,cc,c2,c2l,mB,sc⟩,⟨c4,w4⟩,c5,w5⟩:=bj H.out HG.out k aA;obtain⟨fp,fc⟩:=fR NB.out aA;have SP:=aa sp;have SC:=aa sc;clear sp sc jQ mB;go_wp2;obtain⟨W2,hW2⟩:∃W2:World,Hid (W2=wo.alloc (.cells #[.int .i64 l[k].kind,.slice ap l[k].parents.length cp,.slice ac l[k].choices.length cc,.int .i64 l[k].low,.int .i64 l[k].high] 130)):=⟨_,aa rfl⟩;rw[<-hW2.out];obtain⟨B2,hB2⟩:∃B2:Nat,Hid (wo.heap.size=B2):=⟨_,aa rfl⟩;rw[hB2.out];have SP2:Hid (ag 1 RI W2 ap l[k].parents):=aa (by rw[hW2.out];exact SP.out.giI ((gfl _).alloc _));have SC2:Hid (ag 1 RI W2 ac l[k].choices):=aa (by rw[hW2.out];exact SC.out.giI ((gfl _).alloc _));have HG2:Hid (Gr w W2):=aa (by rw[hW2.out];exact HG.out.alloc _);have RB:Hid (Row W2 B2 130 [.int .i64 l[k].kind,.slice ap l[k].parents.length cp,.slice ac l[k].choices.length cc,.int .i64 l[k].low,.int .i64 l[k].high]):=aa (by rw[hW2.out,<-hB2.out];exact Row.new wo _ _);clear hW2 hB2 SP SC HG c0 c1 c2 c4 c5;go_loop [42] (fun j=>∃m:Nat,m<=l[k].parents.length/\j= .int .i64 m/\∀i (h:i<l[k].parents.length),i<m->0<=l[k].parents[i]/\l[k].parents[i]<k) (fun j=>l[k].parents.length-(intOf j).toNat);case atStart=>exact⟨0,Nat.zero_le _,rfl,fun i _ h=>absurd h (by omega)⟩
    case round=>
     obtain⟨m,hm,rfl,sw⟩:=hrel;have HP:=aa sw;clear sw;by_cases kL:m<l[k].parents.length
     ·obtain⟨bp,op,rfl,⟨q1,q2⟩⟩:=SP2.out.one m kL;by_cases Ci:0<=l[k].parents[m]/\l[k].parents[m]<k
      ·obtain⟨p1,p2⟩:=Ci;go_wp2;go_round;case rel=>
        refine⟨m+1,by omega,by go_num,fun i h hi=>?_⟩;by_cases e:i=m
        ·subst e;exact⟨p1,p2⟩
        exact HP.out i h (by omega)
       case measure=>simp[intOf];omega
      have Gi:=aa (yq NB.out (Ew aA (fun q=>Ci (q.1 m kL))));by_cases p1:l[k].parents[m]<0
      ·go_wp2;go_ret;exact⟨bO Gi.out.symm,HG2.out⟩
      have p2:(k:Int)<=l[k].parents[m]:=(by omega);go_wp2;go_ret;exact⟨bO Gi.out.symm,HG2.out⟩
     have HPO:Hid (Pt l[k] k):=aa fun i h=>HP.out i h (by omega);have r0:=RB.out.cell 0 (by simp);have r1:=RB.out.cell 1 (by simp);have r2:=RB.out.cell 2 (by simp);have r3:=RB.out.cell 3 (by simp);have r4:=RB.out.cell 4 (by simp);have rh:=RB.out.has;simp only[List.getElem_cons_zero,List.getElem_cons_succ] at r0 r1 r2 r3 r4;clear HP;by_cases zF:dH l[k]
     ·have hd:decide (dH l[k])=true:=(by simpa using zF);have HC:=aa zF;have HD:=aa hd;have AU:=Ga zF;clear zF hd;by_cases Hn:0<=l[k].low/\l[k].low<=l[k].high/\l[k].high<=4000000000
      ·obtain⟨l1,l2,l3⟩:=Hn;have MS:=aa (Wj (bF (l.take k)) l[k].choices.length AU);rw[HX.out,<-ql l k aA] at MS;have xl0:0<=x*(l[k].choices.length:Int):=Int.mul_nonneg xb.1 (by omega);have xl1:x*(l[k].choices.length:Int)<=1099511627776*8:=Int.mul_le_mul xb.2 (by omega) (by omega) (by omega);go_wp2_with fail;refine(sJ l[k] ap ac cp cc _ c1l c2l fp fc SP2.out SC2.out).mono ?_;rintro e w' ⟨rfl,O1,D1,rfl⟩;rw[HD.out];go_wp2_with fail;all_goals
        go_roundw;case rel=>
         refine⟨k+1,by omega,by go_num,?_,fun j hj=>?_,gri HG2.out⟩
         ·rw[<-MS.out];first|rfl|(rw[Int.min_def];split<;>first|rfl|(congr 1;omega))
         by_cases e:j=k
         ·subst e;exact⟨aA,HPO.out,HC.out,l1,l2,l3⟩
         exact HA.out j (by omega)
        case measure=>simp[intOf];omega
      have Gi:=aa (yq NB.out (Ew aA (fun q=>Hn q.2.2)));rcases(show l[k].low<0∨(0<=l[k].low/\l[k].high<l[k].low)∨(0<=l[k].low/\l[k].low<=l[k].high/\4000000000<l[k].high) by omega) with q|⟨q,q'⟩|⟨q,q',q''⟩;all_goals
       clear Hn;go_wp2_with fail;refine(sJ l[k] ap ac cp cc _ c1l c2l fp fc SP2.out SC2.out).mono ?_;rintro e w' ⟨rfl,O1,D1,rfl⟩;rw[HD.out];go_wp2_with fail;go_ret;exact⟨bO Gi.out.symm,gri HG2.out⟩
     have hd:decide (dH l[k])=false:=(by simpa using zF);have Gi:=aa (yq NB.out (Ew aA (fun q=>zF q.2.1)));have HD:=aa hd;clear zF hd;go_wp2_with fail;refine(sJ l[k] ap ac cp cc _ c1l c2l fp fc SP2.out SC2.out).mono ?_;rintro e w' ⟨rfl,O1,D1,rfl⟩;rw[HD.out];go_wp2_with fail;go_ret;exact⟨bO Gi.out.symm,gri HG2.out⟩
   have hOK:Hid (rK l):=aa fun j hj=>HA.out j (by omega);obtain rfl:k=l.length:=by omega
   rw[List.take_length] at HX;clear HA;by_cases hmu:4096<x
   ·have hm:=aa (mN NB.out hOK.out (fun q=>by have:=(Ob (bF l)).1 (by rw[HX.out];exact hmu);omega));go_wp2;go_ret;exact⟨bO hm.out.symm,HG.out⟩
   have mI:Hid (bF l<=4096):=aa (Nat.le_of_not_lt fun q=>hmu (by rw[<-HX.out];exact(Ob _).2 q));go_wp2_with fail;refine(Gp l ao cap wo (bj H.out HG.out) NB.out hOK.out).mono ?_;rintro e W3 ⟨a3,c3,rfl,h3,ho3,cG⟩;rw[dp,ln] at h3;rw[dp,ln];have fb:=tf l;have SF:Hid (ag 1 RI W3 a3 (cb l)):=aa (ho3.slI fun j hj=>by have:=fb _ (List.getElem_mem hj);unfold aK;omega);have HG3:=aa (HG.out.trans cG);have FLn:=aa (ln l);clear fb ho3 cG;go_wp2_with fail;go_loop [86] (fun i=>∃k:Nat,k<=l.length/\i= .int .i64 k/\∀j (h:j<(cb l).length),j<k->(cb l)[j]<=4) (fun i=>l.length-(intOf i).toNat);case atStart=>exact⟨0,Nat.zero_le _,rfl,fun j _ h=>absurd h (by omega)⟩
   case round=>
    obtain⟨k,hk,rfl,aH⟩:=hrel;have HA:=aa aH;clear aH;by_cases aA:k<l.length
    ·have tT:k<(cb l).length:=(by rw[FLn.out];exact aA);obtain⟨bf,of',rfl,⟨q,_⟩⟩:=SF.out.one k tT;by_cases h4:4<(cb l)[k]
     ·have hm:=aa (mN NB.out hOK.out (fun q=>by have:=q.2 _ (List.getElem_mem tT);omega));go_wp2;go_ret;exact⟨bO hm.out.symm,HG3.out⟩
     go_wp2;go_round;case rel=>
      refine⟨k+1,by omega,by go_num,fun j h hj=>?_⟩;by_cases e:j=k
      ·subst e;omega
      exact HA.out j h (by omega)
     case measure=>simp[intOf];omega
    have hz:=aa (Bt NB.out hOK.out mI.out (fun y hy=>by obtain⟨j,hj,rfl⟩:=List.getElem_of_mem hy;exact HA.out j hj (by have:=FLn.out;omega)))
    go_wp2;go_ret;exact⟨bO hz.out.symm,HG3.out⟩
end Go.Proofs.YtlmhkjdkcoiioaaGreatDoor
