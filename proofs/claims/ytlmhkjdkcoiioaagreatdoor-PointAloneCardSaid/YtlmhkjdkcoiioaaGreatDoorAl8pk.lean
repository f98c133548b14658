/- Lemmas and contracts for the proof of PointAlone (several texts in one, printed by wip/tools/pack.py): Kv Kx Ky Kz OpC OsE OpS ZSupA ZSupL ZSupB ZRefA ZSupR ZSupS ZSupU ZSupV. -/
import Derived.Test.YtlmhkjdkcoiioaaGreatDoorAl8pj
import Derived.Lib.SliceRun
import Derived.Lib.LazyBuf
import Derived.Deep.LoopGhost
import Derived.Deep.Slices
import Derived.Deep.Strs
import Derived.WalkKit
import Derived.ProofKit
import Derived.SizedLaws
import Derived.Test.YtlmhkjdkcoiioaaGreatDoorAl8pa
import Derived.Test.YtlmhkjdkcoiioaaGreatDoorAl8pb
import Derived.Test.YtlmhkjdkcoiioaaGreatDoorAl8pd
import Derived.Deep.DeepCutAuto
set_option maxRecDepth 100000
set_option maxHeartbeats 16000000
set_option linter.unusedVariables false
set_option linter.unusedSimpArgs false
namespace Go.Proofs.YtlmhkjdkcoiioaaGreatDoor
section
open Go.RowKit
open Classical
structure Bnd where
 index:Int
 clock:Int
 low:Int
 high:Int
 idle:Bool
def RBnd(w:World)(b o:Nat)(x:Bnd):Prop:=w.cell? ⟨b,o,none⟩=some (.int .i64 x.index)/\w.cell? ⟨b,o+1,none⟩=some (.int .i64 x.clock)/\w.cell? ⟨b,o+2,none⟩=some (.int .i64 x.low)/\w.cell? ⟨b,o+3,none⟩=some (.int .i64 x.high)/\w.cell? ⟨b,o+4,none⟩=some (.bool x.idle)
def limB(j:Nat)(x:Lmt):Bnd:=⟨j,x.clock,x.low,x.high,false⟩
def limsB(ms:List Lmt):List Bnd:=ms.mapIdx limB
noncomputable def XA(n i:Nat)(c:Clk):List Bnd:=if c.high=0 then [] else [⟨((n+i:Nat):Int),i,c.low,c.high,true⟩]
noncomputable def ownB(n:Nat)(l:List Clk):List Bnd:=(l.mapIdx (XA n)).flatten
noncomputable def allB(l:List Clk)(ms:List Lmt):List Bnd:=limsB ms++ownB ms.length l
def Ve(b:Bnd)(r:Rt):Bool:=match r with|none=>!b.idle|some (n,d)=>!fB n d b.low b.high
noncomputable def Qg(l:List Clk)(ms:List Lmt)(s:List Int):Bool:=decide (∀b∈allB l ms,Ve b (cZ (rts l s) b.clock.toNat)=false)
noncomputable def setN(l:List Clk)(n:Nat):List Int:=if h:∃s,aI l s/\num l s=(n:Int) then Classical.choose h else []
abbrev Lie(σ:Type):=σ->World->List Nat->Prop
structure LieOk{σ:Type}(I:Lie σ):Prop where
 keep:∀st w w' L row,I st w L->w.grownBy w' row->(∀b,row=some b->b∈L)->I st w' L
 sub:∀st w L L',I st w L->(∀b∈L',b∈L)->I st w L'
structure VI{σ:Type}(I:Lie σ)(w0 w:World)(bs:List Bnd)(ab:Option Addr)(SB:Nat)(GL L0:List Nat)(st:σ)(wr:World)(u:List Int):Prop where
 row:Row wr SB 3 (an u)
 lst:ag 5 RBnd wr ab bs
 lblk:∀x,0<bs.length->ab=some x->x.block∈GL
 has:∀b∈GL,Has wr b
 ne:SB∉GL
 st:I st wr (SB::(GL++L0))
 gr:Gr w0 wr
 keep:∀b∈L0,wr.heap[b]?=w.heap[b]?
 size:w.heap.size<=wr.heap.size
section
variable {σ:Type} {I:Lie σ} {w0 w:World} {bs:List Bnd} {ab:Option Addr} {SB:Nat} {GL L0:List Nat} {st:σ} {wr w':World} {u:List Int}
end
def PrtOk(l:List Clk)(p:List Int):Prop:=p.length=l.length/\∀i,i<l.length->sOf p i= -1∨(0<=sOf p i/\sOf p i<kOf l i)
def ExtS(p s:List Int):Prop:=∀i,sOf p i≠ -1->sOf s i=sOf p i
inductive Dec
 |opn (f:Nat)
 |isr (r:Rt)
def dec(l:List Clk)(p:List Int)(i:Nat):Dec:=
 match l[i]? with
 |none=> .opn i
 |some c=>
  if sOf p i= -1 then .opn i
  else if c.kind=1 then .isr (some (chC c (sOf p i),1))
  else if h:(gN c (sOf p i)).toNat<i then
   match dec l p (gN c (sOf p i)).toNat with
   | .opn f=> .opn f
   | .isr r=> .isr (iv c (chC c (sOf p i)) r)
  else .opn i
termination_by i
def Gk(l:List Clk)(p:List Int):List Bnd->Int->Int×Int
 | [],nx=>(-1,nx)
 |b::bs,nx=>
  match dec l p b.clock.toNat with
  | .isr r=>if Ve b r=true then(b.index,0) else Gk l p bs nx
  | .opn f=>Gk l p bs (if nx<0 then(f:Int) else nx)
noncomputable def judge(l:List Clk)(ms:List Lmt)(p:List Int):Int×Int:=Gk l p (allB l ms) (-1)
def NoExt(l:List Clk)(ms:List Lmt)(p:List Int):Prop:=∀s,aI l s->ExtS p s->Qg l ms s=false
structure Brn where
 limit:Int
 clock:Int
 next:List Int
def NextAt(base:Nat)(w:World)(xs:List (Brn×Option Addr×Nat)):Prop:=∀b∈xs,bt base w 3 (an b.1.next) b.2.1/\b.1.next.length<=b.2.2
def KeepI(w w':World):Prop:=w.heap.size<=w'.heap.size/\∀B vs,Row w B 3 vs->Row w' B 3 vs
def NotIn(v:Value)(xs:List (Brn×Option Addr×Nat)):Prop:=∀b∈xs,∀B,b.1.next≠ []->b.2.1=some ⟨B,0,none⟩->some B≠v.ownBlock
abbrev Sets:=List (Option (List Int))
def SegAt(b:List Brn)(a:Nat)(R:List Brn):Prop:=∀i (h:i<R.length),b[a+i]?=some R[i]
def RBrn(w:World)(b o:Nat)(x:Brn):Prop:=RI w b o x.limit/\RI w b (o+1) x.clock/\RSl 1 RI w b (o+2) x.next
def WT(base:Nat)(w:World)(L:Nat)(v:Value)(o:Option (List Int)):Prop:=match o with|none=>v= .slice none 0 0|some s=>∃B c,v= .slice (some ⟨B,0,none⟩) L c/\base<=B/\bd w B 3 (an s)
def SetsAt(base:Nat)(w:World)(SG L:Nat)(S:Sets):Prop:=∃vs,Row w SG 22 vs/\vs.length=S.length/\(∀k (h:k<vs.length) (h':k<S.length),WT base w L vs[k] S[k])/\base<=SG
end
section
open Go.RowKit Go.ChangeShapes Go.WideShapes
def Light{H:Type}(t:TypeId)(d:DataW H):Prop:=∀n∈d.weights Tryz.prog t,n<=reachBytes
instance:Inhabited Clk:=⟨⟨0,[],[],0,0⟩⟩
instance:Inhabited Lmt:=⟨⟨0,0,0⟩⟩
instance:Inhabited Brn:=⟨⟨0,0,[]⟩⟩
end
section
open Go.RowKit
open Classical
def nP(w:World)(b o:Nat)(s:List Int):Prop:=∃a c,w.cell? ⟨b,o,none⟩=some (.slice a s.length c)/\ag 1 RI w a s
theorem nP.mono:oA nP:=fun _ _ _ _ _ hg ⟨a,c,h,hs⟩=>⟨a,c,aB hg h,hs.giI hg⟩
def OsAt(base:Nat)(w:World)(os:List OT):Prop:=∀o∈os,bd w o.B 3 (an o.t)/\base<=o.B
theorem Ww{w:World}{base:Nat}{a:Option Addr}{c:Nat}{os:List OT}{l:List Clk}(hc:bA l=0)(h:w.ownsRow base 22 1 (.slice a os.length c) os.length (os.map (Jy l.length)))(ho:OsAt base w os)(hk:∀s∈os.map (·.t),aI l s):ag 1 nP w a (os.map (·.t)):=by
 intro k jP;have sy:k<os.length:=by simpa using jP
 obtain⟨g,cap,e1,h1,_,lG⟩:=fM h (by omega);cases e1
 have hs:=hk _ (List.getElem_mem jP);refine⟨g,0,rfl,?_⟩;simp only[List.getElem_map] at hs ⊢;refine⟨some ⟨os[k].B,0,none⟩,os[k].c,?_,(ho _ (List.getElem_mem sy)).1.slI (gm hc hs)⟩;rw[Nat.zero_add,lG (k*1) (by omega),Nat.mul_one,List.getElem?_map,List.getElem?_eq_getElem sy,hs.1];rfl
end
section
open Go.RowKit Go.ChangeShapes Go.WideShapes
def RSetW(w:World)(b o:Nat)(s:List Int):Prop:=Fit s.length/\nP w b o s
structure Wri where
 kind:Int
 unit:Int
 value:Int
end
section
open Go.RowKit
structure Sup where
 parent:Int
 levels:List Int
 dropout:Int
 capacity:Int
 always:Bool
structure Drw where
 supply:Int
 low:Int
 high:Int
 load:Int
structure Rls where
 on:List Bool
 level:List Int
def bG(w:World)(b o:Nat)(s:Sup):Prop:=RI w b o s.parent/\RSl 1 RI w b (o+1) s.levels/\RI w b (o+2) s.dropout/\RI w b (o+3) s.capacity/\RB w b (o+4) s.always
def cX(w:World)(b o:Nat)(s:Drw):Prop:=RI w b o s.supply/\RI w b (o+1) s.low/\RI w b (o+2) s.high/\RI w b (o+3) s.load
def zd(w:World)(b o:Nat)(s:Rls):Prop:=RSl 1 RB w b o s.on/\RSl 1 RI w b (o+1) s.level
def dY(w:World)(b o:Nat)(s:Wri):Prop:=RI w b o s.kind/\RI w b (o+1) s.unit/\RI w b (o+2) s.value
theorem bG.mono:oA bG:=fun _ _ _ _ _ hg ⟨h0,h1,h2,h3,h4⟩=>⟨RI.mono _ _ _ _ _ hg h0,RSl.mono RI.mono _ _ _ _ _ hg h1,RI.mono _ _ _ _ _ hg h2,RI.mono _ _ _ _ _ hg h3,RB.mono _ _ _ _ _ hg h4⟩
theorem cX.mono:oA cX:=fun _ _ _ _ _ hg ⟨h0,h1,h2,h3⟩=>⟨RI.mono _ _ _ _ _ hg h0,RI.mono _ _ _ _ _ hg h1,RI.mono _ _ _ _ _ hg h2,RI.mono _ _ _ _ _ hg h3⟩
theorem zd.mono:oA zd:=fun _ _ _ _ _ hg ⟨h0,h1⟩=>⟨RSl.mono RB.mono _ _ _ _ _ hg h0,RSl.mono RI.mono _ _ _ _ _ hg h1⟩
theorem dY.mono:oA dY:=fun _ _ _ _ _ hg ⟨h0,h1,h2⟩=>⟨RI.mono _ _ _ _ _ hg h0,RI.mono _ _ _ _ _ hg h1,RI.mono _ _ _ _ _ hg h2⟩
theorem aX{w w':World}{ao:Option Addr}{xs:List Sup}(h:ag 5 bG w ao xs)(hg:Gr w w'):ag 5 bG w' ao xs:=h.gr bG.mono hg
theorem bP{w w':World}{ao:Option Addr}{xs:List Drw}(h:ag 4 cX w ao xs)(hg:Gr w w'):ag 4 cX w' ao xs:=h.gr cX.mono hg
def Gn(xs:List Int)(j:Nat):Prop:=∃h:j<xs.length,1<=xs[j]/\xs[j]<=5000/\(0<j->xs[j-1]'(by omega)<xs[j])
def nt(s:Sup)(i:Nat):Prop:= -1<=s.parent/\s.parent<=(i:Int)-1/\1<=s.levels.length/\0<=s.dropout/\s.dropout<=5000/\(s.parent<0->s.dropout=0)/\0<=s.capacity/\s.capacity<=10000
def te(s:Sup)(i:Nat):Prop:=nt s i/\∀j,j<s.levels.length->Gn s.levels j
def JR(l:List Sup)(k:Nat):Prop:=∃h:k<l.length,16<l[k].levels.length
def ON(l:List Sup)(k:Nat):Prop:=∃h:k<l.length,te l[k] k
def jI(l:List Sup):Prop:=16<l.length∨∃k,JR l k
def gz(l:List Sup):Prop:=∀k,k<l.length->ON l k
open Classical in
noncomputable def chk(l:List Sup):Int:=if jI l then 3 else if gz l then 0 else 1
theorem BU{l:List Sup}(h:jI l):chk l=3:=by simp[chk,h]
theorem Fm{l:List Sup}(h:¬jI l)(k:gz l):chk l=0:=by simp[chk,h,k]
theorem BY{l:List Sup}(h:¬jI l)(k:¬gz l):chk l=1:=by simp[chk,h,k]
theorem cW{l:List Sup}(h:chk l=0):¬jI l/\gz l:=by
 unfold chk at h;split at h
 ·omega
 split at h
 ·exact⟨by assumption,by assumption⟩
 omega
theorem sX(l:List Sup):0<=chk l/\chk l<=3:=by unfold chk;split<;>(try split)<;>omega
theorem Tt{l:List Sup}{k m:Nat}(hk:k<l.length)(hm:m<l[k].levels.length)(h:¬Gn l[k].levels m):¬gz l:=fun ha=>by obtain⟨_,hs⟩:=ha k hk;exact h (hs.2 m hm)
theorem UT{l:List Sup}{k:Nat}(hk:k<l.length)(h:¬nt l[k] k):¬gz l:=fun ha=>by obtain⟨_,hs⟩:=ha k hk;exact h hs.1
def fq(l:List Sup)(x:Drw):Prop:=0<=x.supply/\x.supply<=(l.length:Int)-1/\0<=x.low/\x.low<=x.high/\x.high<=5000/\0<=x.load/\x.load<=10000
def b7(l:List Sup)(d:List Drw):Prop:=chk l=0/\d.length<=32/\∀k (h:k<d.length),fq l d[k]
def bL(l:List Sup)(r:Rls):Prop:=chk l=0/\r.on.length=l.length/\r.level.length=l.length/\∀k (h:k<l.length) (h':k<r.level.length),0<=r.level[k]/\r.level[k]<=(l[k].levels.length:Int)-1
end
def tL(h:Nat->Int):Nat->Nat->Int
 |_,0=>0
 |n,k+1=>h n+tL h (n+1) k
theorem Fh{h g:Nat->Int}{k:Nat}:∀{n:Nat},(∀c,n<=c->c<n+k->h c=g c)->tL h n k=tL g n k:=by
 induction k with
 |zero=>intro n _;rfl
 |succ k ih=>intro n hc;simp only[tL];rw[hc n (Nat.le_refl _) (by omega),ih fun c h1 h2=>hc c (by omega) (by omega)]
def jL(d:List Drw)(i:Nat):Nat->Int
 |0=>0
 |m+1=>jL d i m+(if h:m<d.length then(if d[m].supply=(i:Int) then d[m].load else 0) else 0)
def own(d:List Drw)(i:Nat):Int:=jL d i d.length
def zt(l:List Sup)(c:Nat):Int:=if h:c<l.length then l[c].parent else -1
theorem Mj{l:List Sup}{c:Nat}(h:c<l.length):zt l c=l[c].parent:=by simp[zt,h]
def ldF(l:List Sup)(d:List Drw):Nat->Nat->Int
 |0,_=>0
 |f+1,i=>own d i+tL (fun c=>if zt l c=(i:Int) then ldF l d f c else 0) (i+1) (l.length-(i+1))
theorem Qm(l:List Sup)(d:List Drw)(f:Nat):∀(f' i:Nat),i<l.length->l.length-i<=f->l.length-i<=f'->ldF l d f i=ldF l d f' i:=by
 induction f with
 |zero=>intro f' i h h1;omega
 |succ f ih=>
  intro f' i h h1 h2;cases f' with
  |zero=>omega
  |succ f'=>
   simp only[ldF];congr 1;apply Fh;intro c oC Hi;split
   ·exact ih f' c (by omega) (by omega) (by omega)
   rfl
def ld(l:List Sup)(d:List Drw)(i:Nat):Int:=ldF l d (l.length-i) i
def up(l:List Sup)(d:List Drw)(n j:Nat):Int:=tL (fun c=>if zt l c=(j:Int) then ld l d c else 0) n (l.length-n)
theorem On(l:List Sup)(d:List Drw)(i:Nat)(h:i<l.length):ld l d i=own d i+up l d (i+1) i:=by
 unfold ld up;obtain⟨f,hf⟩:∃f,l.length-i=f+1:=⟨l.length-i-1,by omega⟩;rw[hf];simp only[ldF];congr 1;apply Fh;intro c oC Hi;split
 ·exact Qm l d f _ c (by omega) (by omega) (by omega)
 rfl
theorem FU(l:List Sup)(d:List Drw)(i j:Nat)(h:i<l.length):up l d i j=(if l[i].parent=(j:Int) then ld l d i else 0)+up l d (i+1) j:=by unfold up;obtain⟨f,hf⟩:∃f,l.length-i=f+1:=⟨l.length-i-1,by omega⟩;rw[hf,show l.length-(i+1)=f by omega];simp only[tL];rw[Mj h]
theorem Rd(l:List Sup)(d:List Drw)(j:Nat):up l d l.length j=0:=by simp[up,tL]
theorem uA(d:List Drw)(hd:∀k (h:k<d.length),0<=d[k].load/\d[k].load<=10000)(i m:Nat):0<=jL d i m/\jL d i m<=10000*m:=by
 induction m with
 |zero=>simp[jL]
 |succ m ih=>
  simp only[jL];split
  ·rename_i h;have:=hd m h;split<;>omega
  omega
theorem JK(h:Nat->Int)(k:Nat):∀n,(∀t,t<k->0<=h (n+t)/\h (n+t)<=320000*2^(k-t-1))->0<=tL h n k/\tL h n k<=320000*(2^k-1):=by
 induction k with
 |zero=>intro n _;simp[tL]
 |succ k ih=>
  intro n hc;simp only[tL];have h1:=hc 0 (by omega);have h2:=ih (n+1) fun t ht=>by have:=hc (t+1) (by omega);rw[show n+(t+1)=n+1+t by omega,show k+1-(t+1)-1=k-t-1 by omega] at this;exact this
  simp only[Nat.add_zero,Nat.sub_zero,Nat.add_sub_cancel] at h1;have h3:(2:Int)^(k+1)=2*2^k:=by rw[Int.pow_succ];omega
  rw[h3];generalize (2:Int)^k=z at*;omega
theorem Nn(l:List Sup)(d:List Drw)(hd:∀k (h:k<d.length),0<=d[k].load/\d[k].load<=10000)(hl:d.length<=32)(n:Nat):
  ∀i,i<l.length->l.length-i=n->0<=ld l d i/\ld l d i<=320000*2^(n-1):=by
 induction n using Nat.strongRecOn with
 |_ n ih=>
  intro i hi hn;rw[On l d i hi];have h1:=uA d hd i d.length;have h2:0<=up l d (i+1) i/\up l d (i+1) i<=320000*(2^(l.length-(i+1))-1):=by
   unfold up;apply JK;intro t ht;split
   ·have:=ih (l.length-(i+1+t)) (by omega) (i+1+t) (by omega) rfl;rw[show l.length-(i+1)-t-1=l.length-(i+1+t)-1 by omega];exact this
   exact⟨Int.le_refl _,Int.mul_nonneg (by omega) (Int.pow_nonneg (by omega))⟩
  unfold own;rw[show n-1=l.length-(i+1) by omega];generalize (2:Int)^(l.length-(i+1))=z at*;omega
theorem Ri(k:Nat)(h:k<=16):(1:Int)<=2^k/\(2:Int)^k<=65536:=by
 have:k=0∨k=1∨k=2∨k=3∨k=4∨k=5∨k=6∨k=7∨k=8∨k=9∨k=10∨k=11∨k=12∨k=13∨k=14∨k=15∨k=16:=by omega
 rcases this with rfl|rfl|rfl|rfl|rfl|rfl|rfl|rfl|rfl|rfl|rfl|rfl|rfl|rfl|rfl|rfl|rfl<;>decide
theorem CZ(l:List Sup)(d:List Drw)(hd:∀k (h:k<d.length),0<=d[k].load/\d[k].load<=10000)(hl:d.length<=32)(hs:l.length<=16)(i:Nat)(hi:i<l.length):0<=ld l d i/\ld l d i<=20971520000:=by have h:=Nn l d hd hl _ i hi rfl;have h1:=Ri (l.length-i-1) (by omega);omega
theorem Dh(l:List Sup)(d:List Drw)(hd:∀k (h:k<d.length),0<=d[k].load/\d[k].load<=10000)(hl:d.length<=32)(hs:l.length<=16)(n j:Nat):0<=up l d n j/\up l d n j<=20971520000:=by
 have h:0<=up l d n j/\up l d n j<=320000*(2^(l.length-n)-1):=by
  unfold up;apply JK;intro t ht;split
  ·have:=Nn l d hd hl _ (n+t) (by omega) rfl;rw[show l.length-n-t-1=l.length-(n+t)-1 by omega];exact this
  exact⟨Int.le_refl _,Int.mul_nonneg (by omega) (Int.pow_nonneg (by omega))⟩
 have h1:=Ri (l.length-n) (by omega);omega
def pQ(l:List Sup)(d:List Drw):List Int:=(List.range l.length).map fun i=>ld l d i
theorem iK(l:List Sup)(d:List Drw):(pQ l d).length=l.length:=by simp[pQ]
theorem wR(l:List Sup)(d:List Drw)(i:Nat)(h:i<(pQ l d).length):(pQ l d)[i]=ld l d i:=by simp[pQ]
def mq(l:List Sup)(d:List Drw)(pre:Nat->Int)(n:Nat)(vs:List Int):Prop:=
 vs.length=l.length/\∀j (h:j<vs.length),(n<=j->vs[j]=ld l d j)/\(j<n->vs[j]=pre j+up l d n j)
theorem mq.start(l:List Sup)(d:List Drw):mq l d (fun _=>0) l.length (List.replicate l.length 0):=by
 refine⟨by simp,fun j h=>⟨fun h1=>?_,fun _=>?_⟩⟩
 ·simp at h;omega
 rw[Rd];simp
theorem mq.step0{l:List Sup}{d:List Drw}{pre:Nat->Int}{i:Nat}{vs:List Int}(h:mq l d pre (i+1) vs)(hi:i<l.length)(hp:l[i].parent<0):mq l d pre i (vs.set i (ld l d i)):=by
 obtain⟨h1,h2⟩:=h;refine⟨by simpa using h1,fun j hj=>?_⟩;simp only[List.length_set] at hj;have lI:=h2 j hj;refine⟨fun zC=>?_,fun zC=>?_⟩
 ·by_cases e:i=j
  ·subst e;simp
  rw[List.getElem_set_ne e];exact lI.1 (by omega)
 rw[List.getElem_set_ne (by omega),lI.2 (by omega),FU l d i j hi,if_neg (by omega)];omega
theorem mq.step1{l:List Sup}{d:List Drw}{pre:Nat->Int}{i:Nat}{vs:List Int}(h:mq l d pre (i+1) vs)(hi:i<l.length)(p:Nat)(hp:l[i].parent=(p:Int))(hpi:p<i)(dw:p<vs.length):
  mq l d pre i ((vs.set i (ld l d i)).set p (vs[p]+ld l d i)):=by
 obtain⟨h1,h2⟩:=h;refine⟨by simpa using h1,fun j hj=>?_⟩;simp only[List.length_set] at hj;have lI:=h2 j hj;refine⟨fun zC=>?_,fun zC=>?_⟩
 ·rw[List.getElem_set_ne (by omega)];by_cases e:i=j
  ·subst e;simp
  rw[List.getElem_set_ne e];exact lI.1 (by omega)
 by_cases e:p=j
 ·subst e;rw[List.getElem_set_self,lI.2 (by omega),FU l d i p hi,if_pos hp];omega
 rw[List.getElem_set_ne e,List.getElem_set_ne (by omega),lI.2 (by omega),FU l d i j hi,if_neg (by omega)];omega
theorem mq.done{l:List Sup}{d:List Drw}{pre:Nat->Int}{vs:List Int}(h:mq l d pre 0 vs):vs=pQ l d:=by obtain⟨h1,h2⟩:=h;refine List.ext_getElem (by rw[h1,iK]) fun i q1 q2=>?_;rw[wR];exact(h2 i q1).1 (Nat.zero_le _)
section
open Classical
def Fc(l:List Sup)(d:List Drw):Nat->Nat->Prop
 |0,_=>False
 |f+1,i=>∃h:i<l.length,l[i].always=true∨(∃x∈d,x.supply=(i:Int))∨∃c,i<c/\∃hc:c<l.length,l[c].parent=(i:Int)/\Fc l d f c
def fF(l:List Sup)(d:List Drw)(i:Nat):Prop:=∃f,Fc l d f i
theorem Dl(l:List Sup)(d:List Drw)(i:Nat)(hi:i<l.length):
  fF l d i↔l[i].always=true∨(∃x∈d,x.supply=(i:Int))∨∃c,i<c/\∃hc:c<l.length,l[c].parent=(i:Int)/\fF l d c:=by
 constructor
 ·rintro⟨f,hf⟩;cases f with
  |zero=>exact hf.elim
  |succ f=>
   obtain⟨_,h|h|⟨c,h1,h2,h3,h4⟩⟩:=hf
   ·exact .inl h
   ·exact .inr (.inl h)
   exact .inr (.inr ⟨c,h1,h2,h3,f,h4⟩)
 rintro(h|h|⟨c,h1,h2,h3,f,h4⟩)
 ·exact⟨1,hi,.inl h⟩
 ·exact⟨1,hi,.inr (.inl h)⟩
 exact⟨f+1,hi,.inr (.inr ⟨c,h1,h2,h3,h4⟩)⟩
noncomputable def cH(l:List Sup)(d:List Drw):List Bool:=(List.range l.length).map fun i=>decide (fF l d i)
theorem bN(l:List Sup)(d:List Drw):(cH l d).length=l.length:=by simp[cH]
theorem ri(l:List Sup)(d:List Drw)(i:Nat)(h:i<(cH l d).length):(cH l d)[i]=decide (fF l d i):=by simp[cH]
def Ep(l:List Sup)(d:List Drw)(n j:Nat):Prop:=∃c,n<=c/\∃hc:c<l.length,l[c].parent=(j:Int)/\fF l d c
def nm(l:List Sup)(d:List Drw)(pre:Nat->Prop)(n:Nat)(vs:List Bool):Prop:=
 vs.length=l.length/\∀j (h:j<vs.length),(n<=j->(vs[j]=true↔fF l d j))/\(j<n->(vs[j]=true↔pre j∨Ep l d n j))
theorem nm.start(l:List Sup)(d:List Drw):nm l d (fun _=>False) l.length (List.replicate l.length false):=by
 refine⟨by simp,fun j h=>⟨fun h1=>?_,fun _=>?_⟩⟩
 ·simp at h;omega
 simp only[List.getElem_replicate,Bool.false_eq_true,false_or,false_iff];rintro⟨c,h1,h2,_⟩;omega
theorem xD{l:List Sup}{d:List Drw}{i j:Nat}(hi:i<l.length):Ep l d i j↔Ep l d (i+1) j∨(l[i].parent=(j:Int)/\fF l d i):=by
 constructor
 ·rintro⟨c,h1,h2,h3,h4⟩;by_cases e:c=i
  ·subst e;exact .inr ⟨h3,h4⟩
  exact .inl ⟨c,by omega,h2,h3,h4⟩
 rintro(⟨c,h1,h2,h3,h4⟩|⟨h3,h4⟩)
 ·exact⟨c,by omega,h2,h3,h4⟩
 exact⟨i,Nat.le_refl _,hi,h3,h4⟩
theorem Aq{l:List Sup}{d:List Drw}{i:Nat}(hi:i<l.length):fF l d i↔(l[i].always=true∨(∃x∈d,x.supply=(i:Int))∨Ep l d (i+1) i):=by rw[Dl l d i hi];rfl
theorem nm.step0{l:List Sup}{d:List Drw}{pre:Nat->Prop}{i:Nat}{vs:List Bool}(h:nm l d pre (i+1) vs)(hi:i<l.length)(b:Bool)(hb:b=true↔fF l d i)
  (hp:¬(b=true/\0<=l[i].parent)):nm l d pre i (vs.set i b):=by
 obtain⟨h1,h2⟩:=h;refine⟨by simpa using h1,fun j hj=>?_⟩;simp only[List.length_set] at hj;have lI:=h2 j hj;refine⟨fun zC=>?_,fun zC=>?_⟩
 ·by_cases e:i=j
  ·subst e;simpa using hb
  rw[List.getElem_set_ne e];exact lI.1 (by omega)
 rw[List.getElem_set_ne (by omega),lI.2 (by omega),xD hi];constructor
 ·rintro(h|h)
  ·exact .inl h
  exact .inr (.inl h)
 rintro(h|h|⟨h3,h4⟩)
 ·exact .inl h
 ·exact .inr h
 exact absurd ⟨hb.2 h4,by omega⟩ hp
theorem nm.step1{l:List Sup}{d:List Drw}{pre:Nat->Prop}{i:Nat}{vs:List Bool}(h:nm l d pre (i+1) vs)(hi:i<l.length)(b:Bool)(hb:b=true↔fF l d i)(ht:b=true)(p:Nat)(hp:l[i].parent=(p:Int))(hpi:p<i):
  nm l d pre i ((vs.set i b).set p true):=by
 obtain⟨h1,h2⟩:=h;refine⟨by simpa using h1,fun j hj=>?_⟩;simp only[List.length_set] at hj;have lI:=h2 j hj;refine⟨fun zC=>?_,fun zC=>?_⟩
 ·rw[List.getElem_set_ne (by omega)];by_cases e:i=j
  ·subst e;simpa using hb
  rw[List.getElem_set_ne e];exact lI.1 (by omega)
 by_cases e:p=j
 ·subst e;simp only[List.getElem_set_self,true_iff];exact .inr ((xD hi).2 (.inr ⟨hp,hb.1 ht⟩))
 rw[List.getElem_set_ne e,List.getElem_set_ne (by omega),lI.2 (by omega),xD hi];constructor
 ·rintro(h|h)
  ·exact .inl h
  exact .inr (.inl h)
 rintro(h|h|⟨h3,h4⟩)
 ·exact .inl h
 ·exact .inr h
 omega
theorem nm.done{l:List Sup}{d:List Drw}{pre:Nat->Prop}{vs:List Bool}(h:nm l d pre 0 vs):vs=cH l d:=by obtain⟨h1,h2⟩:=h;refine List.ext_getElem (by rw[h1,bN]) fun i q1 q2=>?_;rw[ri];have:=(h2 i q1).1 (Nat.zero_le _);rw[Bool.eq_iff_iff,this];simp
end
section
open Go.RowKit
end
section
open Go.RowKit
open Classical
theorem sM(x lo hi:Int)(w:World):
  Calls Tryz.prog 84 #[.int .i64 x,.int .i64 lo,.int .i64 hi] w fun e w'=>e= .returned (.bool (decide (lo<=x)&&decide (x<=hi)))/\w=w':=by
 go_enter Tryz.func84,Tryz.ntmps84;go_wp2;all_goals go_ret
 all_goals exact⟨ai (by rw[Bool.eq_iff_iff];simp;try omega),rfl⟩
theorem fP(l:List Sup)(ao:Option Addr)(cap:Nat)(w:World)(h:ag 5 bG w ao l)(hf:Fit l.length):
  Calls Tryz.prog 64 #[.slice ao l.length cap] w (aN w (.int .i64 (chk l))):=by
 unfold Fit at hf;have H:=aa h;clear h;by_cases hb:16<l.length
 ·rw[BU (.inl hb)];go_enter Tryz.func64,Tryz.ntmps64;go_wp2;go_ret;exact⟨rfl,gfl _⟩
 go_enter Tryz.func64,Tryz.ntmps64;go_wp2;go_loopw [14] (fun i wr=>∃k:Nat,k<=l.length/\i= .int .i64 k/\(∀j,j<k->¬JR l j)/\Gr w wr) (fun i _=>l.length-(intOf i).toNat);case atStart=>exact⟨0,Nat.zero_le _,rfl,fun j h=>absurd h (by omega),gfl _⟩
 case round=>
  obtain⟨k,hk,rfl,aH,hg⟩:=hrel;have HA:=aa aH;have HG:=aa hg;clear aH hg;by_cases aA:k<l.length
  ·obtain⟨b,o,rfl,⟨c0,_⟩,⟨al,cl,c1,c1l,_,_⟩,⟨c2,_⟩,⟨c3,_⟩,c4⟩:=aX H.out HG.out k aA;unfold RB at c4;go_wp2
   ·go_ret;rename_i q _;exact⟨bO (BU (.inr ⟨k,aA,by omega⟩)).symm,gri HG.out⟩
   go_roundw;case rel=>
    refine⟨k+1,by omega,by go_num,fun j hj=>?_,gri HG.out⟩;by_cases e:j=k
    ·subst e;rintro⟨_,h⟩;omega
    exact HA.out j (by omega)
   case measure=>simp[intOf];omega
  have hNB:¬jI l:=by
   rintro(h|⟨j,h⟩)
   ·omega
   exact HA.out j (by obtain⟨h1,_⟩:=h;omega) h
  have NB:=aa hNB;clear HA hNB;obtain⟨w1,rfl⟩:∃w1:World,w1=wr:=⟨_,rfl⟩;go_wp2;go_loopw [25] (fun i wr=>∃k:Nat,k<=l.length/\i= .int .i64 k/\(∀j,j<k->ON l j)/\Gr w wr) (fun i _=>l.length-(intOf i).toNat);case atStart=>exact⟨0,Nat.zero_le _,rfl,fun j h=>absurd h (by omega),HG.out⟩
  case round=>
   clear HG;obtain⟨k,hk,rfl,aH,hg⟩:=hrel;have HA:=aa aH;have HG:=aa hg;clear aH hg;obtain⟨wo,rfl⟩:∃wo:World,wo=wr:=⟨_,rfl⟩;by_cases aA:k<l.length
   ·obtain⟨b,o,rfl,⟨c0,_⟩,⟨al,cl,c1,c1l,jQ,cL⟩,⟨c2,_⟩,⟨c3,_⟩,c4⟩:=aX H.out HG.out k aA;unfold RB at c4;unfold Fit at jQ;have CL:=aa cL;clear cL;by_cases hH:nt l[k] k
    ·have HH:=aa hH;obtain⟨h1,h2,h3,h4,h5,h6,h7,h8⟩:=hH;have h6':l[k].parent<0->(l[k].dropout !=0)=false:=fun h=>by simp[h6 h]
     clear h6;by_cases hp:l[k].parent<0;all_goals
      first|(have h6:=h6' hp)|skip
      clear h6';go_wp2_with (go_at_call 84;refine(sM _ _ _ _).mono ?_;rintro e w' ⟨rfl,rfl⟩);obtain⟨w2,nA⟩:∃w2:World,Hid (w2=wo.alloc (.cells #[.int .i64 l[k].parent,.slice al l[k].levels.length cl,.int .i64 l[k].dropout,.int .i64 l[k].capacity,.bool l[k].always] 81)):=⟨_,aa rfl⟩;go_loopw [67] (fun i wr=>∃m:Nat,m<=l[k].levels.length/\i= .int .i64 m/\(∀j,j<m->Gn l[k].levels j)/\Gr w2 wr) (fun i _=>l[k].levels.length-(intOf i).toNat);case atStart=>exact⟨0,Nat.zero_le _,rfl,fun j h=>absurd h (by omega),by rw[nA.out];exact gfl _⟩
      case round=>
       obtain⟨m,hm,rfl,ke,bY⟩:=hrel;have HLV:=aa ke;have G2:=aa bY;have G1:Hid (Gr wo wr):=aa (((gfl wo).alloc _).trans (nA.out▸bY));have e1:wr.cell? ⟨wo.heap.size,1,none⟩=some (.slice al l[k].levels.length cl):=by have:=bY;rw[nA.out] at this;exact aB this (by simp[go_sem])
       clear ke bY;by_cases kL:m<l[k].levels.length
       ·obtain⟨bl,ol,rfl,lV⟩:=(CL.out.giI G1.out).all1 (by omega);obtain⟨d1,d1w,d1x⟩:=lV m kL;by_cases jx:0<m
        ·obtain⟨d2,_⟩:=lV (m-1) (by omega);clear lV;go_wp2_with (go_at_call 84;refine(sM _ _ _ _).mono ?_;rintro e w' ⟨rfl,rfl⟩);all_goals first
          |(go_ret;exact⟨bO (BY NB.out (Tt aA kL (by rintro⟨_,q1,q2,q3⟩;have q4:=q3 jx;omega))).symm,HG.out.trans G1.out⟩)
          |(go_roundw;(case rel=>exact⟨m+1,by omega,by go_num,fun j hj=>by(by_cases e:j=m);(·subst e;exact⟨kL,by omega,by omega,fun _=>by omega⟩);(·exact HLV.out j (by omega)),G2.out⟩);(case measure=>simp[intOf];omega))
        clear lV;go_wp2_with (go_at_call 84;refine(sM _ _ _ _).mono ?_;rintro e w' ⟨rfl,rfl⟩);all_goals first
         |(go_ret;exact⟨bO (BY NB.out (Tt aA kL (by rintro⟨_,q1,q2,q3⟩;omega))).symm,HG.out.trans G1.out⟩)
         |(go_roundw;(case rel=>exact⟨m+1,by omega,by go_num,fun j hj=>by(by_cases e:j=m);(·subst e;exact⟨kL,by omega,by omega,fun _=>by omega⟩);(·exact HLV.out j (by omega)),G2.out⟩);(case measure=>simp[intOf];omega))
       go_wp2;go_roundw;case rel=>
        refine⟨k+1,by omega,by go_num,fun j hj=>?_,HG.out.trans G1.out⟩;by_cases e:j=k
        ·subst e;exact⟨aA,HH.out,fun i hi=>HLV.out i (by omega)⟩
        exact HA.out j (by omega)
       case measure=>simp[intOf];omega
    have hB:=aa (UT aA hH);unfold nt at hH;go_wp2_with (go_at_call 84;refine(sM _ _ _ _).mono ?_;rintro e w' ⟨rfl,rfl⟩);all_goals first
     |(go_ret;exact⟨bO (BY NB.out hB.out).symm,gri HG.out⟩)
     |(exfalso;(try simp only[Bool.not_eq_eq_eq_not,Bool.not_false,Bool.not_true,decide_eq_true_eq,decide_eq_false_iff_not,bne_eq_false_iff_eq,bne_iff_ne,ne_eq] at*);omega)
   go_wp2;go_ret;exact⟨bO (Fm NB.out (fun j hj=>HA.out j (by omega))).symm,HG.out⟩
theorem My{l:List Sup}{r:Rls}(h:¬(chk l=0/\r.on.length=l.length/\r.level.length=l.length)):¬bL l r:=fun hr=>h ⟨hr.1,hr.2.1,hr.2.2.1⟩
theorem cj{p:Prop}(h:¬p):false=decide p:=by simp[h]
theorem mU{p:Prop}(h:p):true=decide p:=by simp[h]
theorem mu(l:List Sup)(r:Rls)(ao a1 a2:Option Addr)(cap c1 c2:Nat)(w:World)(h:ag 5 bG w ao l)(hf:Fit l.length)(h1:ag 1 RB w a1 r.on)(h2:ag 1 RI w a2 r.level)(f1:Fit r.on.length)(f2:Fit r.level.length):
  Calls Tryz.prog 23 #[.slice ao l.length cap,.agg #[.slice a1 r.on.length c1,.slice a2 r.level.length c2]] w (aN w (.bool (decide (bL l r)))):=by
 have H:=aa h;have H2:=aa h2;have cw:=sX l;have hF:=aa hf;unfold Fit at hf f1 f2;clear h h1 h2;by_cases hc:chk l=0/\r.on.length=l.length/\r.level.length=l.length
 ·obtain⟨g1,g2,g3⟩:=hc;have G:=aa (And.intro g1 (And.intro g2 g3));have g2b:((r.on.length:Int) !=(l.length:Int))=false:=by simp[g2]
  have g3b:((r.level.length:Int) !=(l.length:Int))=false:=by simp[g3]
  clear g2 g3;go_enter Tryz.func23,Tryz.ntmps23;go_wp2_with fail;refine(fP l ao cap _ (aX H.out grr) hF.out).mono ?_;rw[g1];rintro e w' ⟨rfl,O1,d1,rfl⟩;go_wp2_with fail;clear g1 g2b g3b;obtain⟨w0,nw⟩:∃w0:World,Hid (w0=w.alloc (.cells #[.slice a1 r.on.length c1,.slice a2 r.level.length c2] 29)):=⟨_,aa rfl⟩;go_loopw [28] (fun i wr=>∃k:Nat,k<=l.length/\i= .int .i64 k/\(∀j (q1:j<l.length) (q2:j<r.level.length),j<k->0<=r.level[j]/\r.level[j]<=(l[j].levels.length:Int)-1)/\Gr w0 wr) (fun i _=>l.length-(intOf i).toNat);case atStart=>exact⟨0,Nat.zero_le _,rfl,fun j _ _ q=>absurd q (by omega),by rw[nw.out];exact(gfl _).xt _ _⟩
  case round=>
   obtain⟨k,hk,rfl,aH,hg⟩:=hrel;have HA:=aa aH;have G0:=aa hg;have e1:wr.cell? ⟨w.heap.size,1,none⟩=some (.slice a2 r.level.length c2):=by rw[nw.out] at hg;exact aB hg (by simp[go_sem])
   have HG:Hid (Gr w wr):=aa (((gfl w).alloc _).trans (nw.out▸hg));clear aH hg;have e1h:=ae e1;by_cases aA:k<l.length
   ·have fj:k<r.level.length:=(by have:=G.out.2.2;omega);obtain⟨b,o,rfl,⟨c0,_⟩,⟨al,cl,c1,c1l,jQ,cL⟩,⟨c2,_⟩,⟨c3,_⟩,c4⟩:=aX H.out HG.out k aA;unfold RB at c4;unfold Fit at jQ;obtain⟨bl,ol,rfl,⟨d1,d1w,d1x⟩⟩:=(H2.out.giI HG.out).one k fj;have d1h:=ae d1;have G0':=G0;go_wp2_with fail;refine ar (by kernel_rfl) (by kernel_rfl) ?_;repeat(go_big_quiet_step ((go_at_call 84;exact eA (sM _ _ _ _))))
    refine wpQuiet_nil ?_;rintro _ ⟨⟨O5,d5⟩,rfl⟩;go_wp2_with fail;all_goals (try simp only[Bool.not_eq_eq_eq_not,Bool.not_false,Bool.not_true,decide_eq_true_eq,decide_eq_false_iff_not,Bool.and_eq_true,Bool.and_eq_false_iff] at*)
    all_goals first
     |(go_ret;exact⟨ai (cj (fun hr=>by have:=hr.2.2.2 k aA fj;omega)),gri HG.out⟩)
     |(go_roundw;(case rel=>exact⟨k+1,by omega,by go_num,fun j q1 q2 hj=>by(by_cases e:j=k);(·subst e;omega);(·exact HA.out j q1 q2 (by omega)),by repeat(first|with_reducible exact G0'.out|with_reducible refine Gr.alloc _ ?_|with_reducible refine Gr.xt _ _ ?_)⟩);(case measure=>simp[intOf];omega))
   go_wp2_with fail;go_ret;exact⟨ai (mU ⟨G.out.1,G.out.2.1,G.out.2.2,fun j q1 q2=>HA.out j q1 q2 (by omega)⟩),HG.out⟩
 have hN:=aa (My hc);by_cases g1:chk l=0
 ·by_cases g2:r.on.length=l.length
  ·have g2b:((r.on.length:Int) !=(l.length:Int))=false:=by simp[g2]
   have g3b:((r.level.length:Int) !=(l.length:Int))=true:=by simp;omega
   clear g2 hc;go_enter Tryz.func23,Tryz.ntmps23;go_wp2_with fail;refine(fP l ao cap _ (aX H.out grr) hF.out).mono ?_;rw[g1];rintro e w' ⟨rfl,O1,d1,rfl⟩;go_wp2_with fail;go_ret;exact⟨ai (cj hN.out),grr⟩
  have g2b:((r.on.length:Int) !=(l.length:Int))=true:=by simp;omega
  clear g2 hc;go_enter Tryz.func23,Tryz.ntmps23;go_wp2_with fail;refine(fP l ao cap _ (aX H.out grr) hF.out).mono ?_;rw[g1];rintro e w' ⟨rfl,O1,d1,rfl⟩;go_wp2_with fail;go_ret;exact⟨ai (cj hN.out),grr⟩
 have g1b:(chk l !=0)=true:=by simp[g1]
 clear g1 hc;go_enter Tryz.func23,Tryz.ntmps23;go_wp2_with fail;refine(fP l ao cap _ (aX H.out grr) hF.out).mono ?_;rintro e w' ⟨rfl,O1,d1,rfl⟩;go_wp2_with fail;go_ret;exact⟨ai (cj hN.out),grr⟩
theorem mF(l:List Sup)(d:List Drw)(ao a1:Option Addr)(cap c1:Nat)(w:World)(h:ag 5 bG w ao l)(hf:Fit l.length)(h1:ag 4 cX w a1 d)(f1:Fit d.length):
  Calls Tryz.prog 76 #[.slice ao l.length cap,.slice a1 d.length c1] w (aN w (.bool (decide (b7 l d)))):=by
 have H:=aa h;have H1:=aa h1;have cw:=sX l;have hF:=aa hf;unfold Fit at hf f1;clear h h1;by_cases g1:chk l=0
 ·by_cases g2:d.length<=32
  ·have G:=aa g1;go_enter Tryz.func76,Tryz.ntmps76;go_wp2_with fail;refine(fP l ao cap _ H.out hF.out).mono ?_;rw[g1];rintro e w' ⟨rfl,O1,d1,rfl⟩;go_wp2_with fail;clear g1;go_loopw [17] (fun i wr=>∃k:Nat,k<=d.length/\i= .int .i64 k/\(∀j (q1:j<d.length),j<k->fq l d[j])/\Gr w wr) (fun i _=>d.length-(intOf i).toNat);case atStart=>exact⟨0,Nat.zero_le _,rfl,fun j _ q=>absurd q (by omega),(gfl _).xt _ _⟩
   case round=>
    obtain⟨k,hk,rfl,aH,hg⟩:=hrel;have HA:=aa aH;have HG:=aa hg;clear aH hg;by_cases aA:k<d.length
    ·obtain⟨b,o,rfl,⟨c0,_⟩,⟨c1,_⟩,⟨c2,_⟩,⟨c3,_⟩⟩:=bP H1.out HG.out k aA;go_wp2_with (go_at_call 84;refine(sM _ _ _ _).mono ?_;rintro e w' ⟨rfl,rfl⟩);all_goals (try simp only[Bool.not_eq_eq_eq_not,Bool.not_false,Bool.not_true,decide_eq_true_eq,decide_eq_false_iff_not,Bool.and_eq_true,Bool.and_eq_false_iff] at*)
     all_goals first
      |(go_ret;exact⟨ai (cj (fun hr=>by have:=hr.2.2 k aA;unfold fq at this;omega)),gri HG.out⟩)
      |(go_roundw;(case rel=>exact⟨k+1,by omega,by go_num,fun j q1 hj=>by(by_cases e:j=k);(·subst e;unfold fq;omega);(·exact HA.out j q1 (by omega)),gri HG.out⟩);(case measure=>simp[intOf];omega))
    go_wp2_with fail;go_ret;exact⟨ai (mU ⟨G.out,g2,fun j q1=>HA.out j q1 (by omega)⟩),HG.out⟩
  go_enter Tryz.func76,Tryz.ntmps76;go_wp2_with fail;refine(fP l ao cap _ H.out hF.out).mono ?_;rw[g1];rintro e w' ⟨rfl,O1,d1,rfl⟩;go_wp2_with fail;go_ret;exact⟨ai (cj (fun hr=>g2 hr.2.1)),(gfl _).xt _ _⟩
 have g1b:(chk l !=0)=true:=by simp[g1]
 have G:=aa g1;clear g1;go_enter Tryz.func76,Tryz.ntmps76;go_wp2_with fail;refine(fP l ao cap _ H.out hF.out).mono ?_;rintro e w' ⟨rfl,O1,d1,rfl⟩;go_wp2_with fail;go_ret;exact⟨ai (cj (fun hr=>G.out hr.1)),(gfl _).xt _ _⟩
theorem rB(z:Value)(n:Nat):(madeCells #[z] n).toList=List.replicate n z:=by
 apply List.ext_getElem
 ·simp[madeCells]
 intro i h1 h2;simp[madeCells,Nat.mod_one]
theorem Row.slB{w:World}{B T:Nat}{vs:List Bool}(h:Row w B T (bg vs)):ag 1 RB w (some ⟨B,0,none⟩) vs:=fun k hk=>⟨B,0,rfl,by rw[Nat.mul_one,Nat.zero_add];exact h.bat k hk⟩
theorem Row.slI{w:World}{B T:Nat}{vs:List Int}(h:Row w B T (an vs))(hw:∀k (hk:k<vs.length),aK vs[k]):ag 1 RI w (some ⟨B,0,none⟩) vs:=fun k hk=>⟨B,0,rfl,by rw[Nat.mul_one,Nat.zero_add];exact⟨h.iat k hk,hw k hk⟩⟩
def Hit(d:List Drw)(i m:Nat):Prop:=∃k,k<m/\∃h:k<d.length,d[k].supply=(i:Int)
theorem Nr(d:List Drw)(i:Nat):Hit d i d.length↔∃x∈d,x.supply=(i:Int):=by
 constructor
 ·rintro⟨k,_,h,e⟩;exact⟨d[k],List.getElem_mem h,e⟩
 rintro⟨x,hx,e⟩;obtain⟨k,h,rfl⟩:=List.getElem_of_mem hx;exact⟨k,h,h,e⟩
theorem U3(d:List Drw)(i m:Nat)(h:m<d.length):Hit d i (m+1)↔Hit d i m∨d[m].supply=(i:Int):=by
 constructor
 ·rintro⟨k,h1,h2,e⟩;by_cases q:k=m
  ·subst q;exact .inr e
  exact .inl ⟨k,by omega,h2,e⟩
 rintro(⟨k,h1,h2,e⟩|e)
 ·exact⟨k,by omega,h2,e⟩
 exact⟨m,by omega,h,e⟩
theorem xF(l:List Sup)(d:List Drw)(ao a1:Option Addr)(cap c1:Nat)(w:World)(h:ag 5 bG w ao l)(hf:l.length<=16)(hok:gz l)(h1:ag 4 cX w a1 d)(f1:d.length<=32):
  Calls Tryz.prog 86 #[.slice ao l.length cap,.slice a1 d.length c1] w (By 1 RB w (cH l d)):=by
 have H:=aa h;have H1:=aa h1;have OK:=aa hok;clear h h1 hok;have jV:=run_make_row' (P:=Tryz.prog) 27 4 (.bool false) 1 Tryz.underlying27 pe rfl .i64 .i64 l.length (by omega) (by omega);go_enter Tryz.func86,Tryz.ntmps86;go_wp2_with fail;clear jV;go_loopw [6] (fun i wr=>∃n:Nat,n<=l.length/\i= .int .i64 ((n:Int)-1)/\Gr w wr/\∃vs,Row wr w.heap.size 4 (bg vs)/\nm l d (fun _=>False) n vs) (fun i _=>(intOf i+1).toNat);case atStart=>refine⟨l.length,Nat.le_refl _,rfl,(gfl _).alloc _,List.replicate l.length false,?_,nm.start l d⟩;have:=Row.new w (madeCells #[.bool false] l.length) 4;rw[rB] at this;simpa [bg] using this
 case round=>
  obtain⟨n,hn,rfl,hg,vs,fe,hinv⟩:=hrel;have HG:=aa hg;have HR:=aa fe;have HI:=aa hinv;clear hg fe hinv;cases n with
  |zero=>
   go_wp2_with fail;go_ret;refine⟨some ⟨w.heap.size,0,none⟩,l.length,?_,by rw[bN];exact Nat.le_refl _,by rw[bN];unfold Fit;omega,?_,HG.out⟩
   ·rw[bN];rfl
   rw[<-HI.out.done];exact HR.out.slB
  |succ i=>
   rw[show((i+1:Nat):Int)-1=(i:Int) by omega];have mH:i<vs.length:=by have:=HI.out.1;omega
   obtain⟨b,o,rfl,sB⟩:=H.out.all (by omega);have HS:=aa (sB i hn);clear sB;obtain⟨⟨c0,c0w,zM⟩,⟨al,cl,q1,q1l,q1f,cL⟩,⟨c2,_⟩,⟨c3,_⟩,c4⟩:=bG.mono _ _ _ _ _ HG.out HS.out;unfold RB at c4;have r0:=HR.out.bat i mH;have r1:=HR.out.free i;have r2:=HR.out.has;have AN:(0:Int)<=i:=by omega
   have hib:(i:Int)<l.length:=by omega
   obtain⟨wo,rfl⟩:∃wo:World,wo=wr:=⟨_,rfl⟩;go_upto_region 5 with fail;go_cut [] (fun wx=>wx=wo.setCell ⟨w.heap.size,i,none⟩ (.bool (vs[i]||l[i].always)));case first=>
    cases hvi:vs[i] with
    |true=>
     rw[hvi] at r0;go_wp2_with fail
     go_meet
     first|rfl|simp[hvi]
    |false=>
     rw[hvi] at r0;go_wp2_with fail
     go_meet
     first|rfl|simp[hvi]
   case rest=>
    have bD:Gr w wc:=(by rw[hcut];exact HG.out.setCell (Nat.le_refl _) _);have AX:=HR.out.bset i (vs[i]||l[i].always);rw[<-hcut] at AX;have HG1:=aa bD;have HR1:=aa AX;clear bD AX hcut r0 r1 r2 c0 c2 c3 c4 q1;go_wp2_with fail;go_loopw [36] (fun i' wr=>∃m:Nat,m<=d.length/\i'= .int .i64 m/\Gr w wr/\∃bb:Bool,Row wr w.heap.size 4 (bg (vs.set i bb))/\(bb=true↔(vs[i]||l[i].always)=true∨Hit d i m)) (fun i' _=>d.length-(intOf i').toNat);case atStart=>exact⟨0,Nat.zero_le _,rfl,HG1.out,_,HR1.out,⟨fun h=> .inl h,fun h=>h.elim id (fun⟨k,hk,_⟩=>by omega)⟩⟩
    case round=>
     clear HG1 HR1;obtain⟨m,hm,rfl,hg,bb,fe,AH⟩:=hrel;have HG1:=aa hg;have HR1:=aa fe;have HB:=aa AH;clear hg fe AH;have hvl':i<(vs.set i bb).length:=(by simpa using mH);have s0:=HR1.out.bat i hvl';rw[List.getElem_set_self] at s0;have s1:=HR1.out.free i;have s2:=HR1.out.has;by_cases aA:m<d.length
     ·obtain⟨b',o',rfl,⟨e0,_⟩,⟨e1,_⟩,⟨e2,_⟩,⟨e3,_⟩⟩:=bP H1.out HG1.out m aA;have fin:∀b2:Bool,(b2=true↔bb=true∨d[m].supply=(i:Int))->∀W:World,Gr w W->Row W w.heap.size 4 (bg ((vs.set i bb).set i b2))->∃bb:Bool,Row W w.heap.size 4 (bg (vs.set i bb))/\(bb=true↔(vs[i]||l[i].always)=true∨Hit d i (m+1)):=fun b2 px W _ hr=>by
       refine⟨b2,by simpa using hr,?_⟩;rw[px,HB.out,U3 d i m aA,or_assoc]
      have FIN:=aa fin;clear fin;have hif:(i:Int)<16:=(by omega);cases bb with
      |true=>
       go_wp2_with fail;go_roundw;case rel=>exact⟨m+1,by omega,by go_num,(HG1.out.setCell (Nat.le_refl _) _).alloc _,FIN.out true (by simp) _ ((HG1.out.setCell (Nat.le_refl _) _).alloc _) ((HR1.out.bset i true).gr ((gfl _).alloc _))⟩
       case measure=>simp[intOf];omega
      |false=>
       go_wp2_with fail;go_roundw;case rel=>exact⟨m+1,by omega,by go_num,(HG1.out.setCell (Nat.le_refl _) _).alloc _,FIN.out (d[m].supply==(i:Int)) (by simp) _ ((HG1.out.setCell (Nat.le_refl _) _).alloc _) ((HR1.out.bset i _).gr ((gfl _).alloc _))⟩
       case measure=>simp[intOf];omega
     obtain⟨⟨c0,c0w,zM⟩,_⟩:=bG.mono _ _ _ _ _ HG1.out HS.out;have hU:bb=true↔fF l d i:=by
      have hm':m=d.length:=(by omega);rw[HB.out,hm',Nr,Aq hn];have:=(HI.out.2 i mH).2 (by omega);simp only[false_or] at this;simp only[Bool.or_eq_true,this];constructor
      ·rintro((q|q)|q)
       ·exact .inr (.inr q)
       ·exact .inl q
       exact .inr (.inl q)
      rintro(q|q|q)
      ·exact .inl (.inr q)
      ·exact .inr q
      exact .inl (.inl q)
     have HU:=aa hU;clear hU;have HH:nt l[i] i:=(by obtain⟨_,q⟩:=OK.out i hn;exact q.1);have p0:=HH.1;have p1:=HH.2.1;clear HH;by_cases hp:bb=true/\0<=l[i].parent
     ·obtain⟨rfl,z9⟩:=hp;obtain⟨p,iy⟩:=Int.eq_ofNat_of_zero_le z9;have PP:=aa iy;rw[iy] at c0 p1;clear iy z9 p0 c0w zM;have dw:p<(vs.set i true).length:=(by simp;omega);have t0:=HR1.out.bat p dw;have t1:=HR1.out.free p;have hpi:(p:Int)<l.length:=(by omega);go_wp2_with fail;go_roundw;case rel=>exact⟨i,by omega,by go_num,HG1.out.setCell (Nat.le_refl _) _,_,HR1.out.bset p true,HI.out.step1 hn true HU.out rfl p PP.out (by omega)⟩
      case measure=>simp[intOf]
     have hN:=aa (HI.out.step0 hn bb HU.out hp);cases bb with
     |true=>
      have zD:l[i].parent<0:=(by simp at hp;exact hp);go_wp2_with fail;go_roundw;case rel=>exact⟨i,by omega,by go_num,HG1.out,_,HR1.out,hN.out⟩
      case measure=>simp[intOf]
     |false=>
      go_wp2_with fail;go_roundw;case rel=>exact⟨i,by omega,by go_num,HG1.out,_,HR1.out,hN.out⟩
      case measure=>simp[intOf]
theorem tK(w:World)(n:Nat):Row (w.alloc (.cells (madeCells #[.int .i64 0] n) 3)) w.heap.size 3 (an (List.replicate n 0)):=by have:=Row.new w (madeCells #[.int .i64 0] n) 3;rw[rB] at this;simpa [an] using this
theorem JE(l:List Sup)(d:List Drw)(ao a1:Option Addr)(cap c1:Nat)(w:World)(h:ag 5 bG w ao l)(hf:l.length<=16)(hok:gz l)(h1:ag 4 cX w a1 d)(f1:d.length<=32)(hd:∀k (h:k<d.length),0<=d[k].load/\d[k].load<=10000):
  Calls Tryz.prog 139 #[.slice ao l.length cap,.slice a1 d.length c1] w (By 1 RI w (pQ l d)):=by
 have H:=aa h;have H1:=aa h1;have OK:=aa hok;have HD:=aa hd;clear h h1 hok hd;have jV:=run_make_row' (P:=Tryz.prog) 22 3 (.int .i64 0) 8 Tryz.underlying22 eS rfl .i64 .i64 l.length (by omega) (by omega);go_enter Tryz.func139,Tryz.ntmps139;go_wp2_with fail;clear jV;go_loopw [6] (fun i wr=>∃n:Nat,n<=l.length/\i= .int .i64 ((n:Int)-1)/\Gr w wr/\∃vs,Row wr w.heap.size 3 (an vs)/\mq l d (fun _=>0) n vs) (fun i _=>(intOf i+1).toNat);case atStart=>exact⟨l.length,Nat.le_refl _,rfl,(gfl _).alloc _,List.replicate l.length 0,tK w l.length,mq.start l d⟩
 case round=>
  obtain⟨n,hn,rfl,hg,vs,fe,hinv⟩:=hrel;have HG:=aa hg;have HR:=aa fe;have HI:=aa hinv;clear hg fe hinv;cases n with
  |zero=>
   go_wp2_with fail;go_ret;refine⟨some ⟨w.heap.size,0,none⟩,l.length,?_,by rw[iK];exact Nat.le_refl _,by rw[iK];unfold Fit;omega,?_,HG.out⟩
   ·rw[iK];rfl
   rw[<-HI.out.done];refine HR.out.slI fun k hk=>?_;have e:=(HI.out.2 k hk).1 (Nat.zero_le _);have b:=CZ l d HD.out f1 hf k (by have:=HI.out.1;omega);rw[e];unfold aK;omega
  |succ i=>
   rw[show((i+1:Nat):Int)-1=(i:Int) by omega];have mH:i<vs.length:=by have:=HI.out.1;omega
   obtain⟨b,o,rfl,sB⟩:=H.out.all (by omega);have HS:=aa (sB i hn);clear sB;have AN:(0:Int)<=i:=by omega
   have hib:(i:Int)<l.length:=by omega
   have vi:vs[i]=up l d (i+1) i:=by have:=(HI.out.2 i mH).2 (by omega);simpa using this
   have ub:=Dh l d HD.out f1 hf (i+1) i;rw[<-vi] at ub;have VI:=aa vi;clear vi;have ub0:=ub.1;have ub1:=ub.2;clear ub;obtain⟨wo,rfl⟩:∃wo:World,wo=wr:=⟨_,rfl⟩;go_wp2_with fail;go_loopw [22] (fun i' wr=>∃m:Nat,m<=d.length/\i'= .int .i64 m/\Gr w wr/\Row wr w.heap.size 3 (an (vs.set i (vs[i]+jL d i m)))) (fun i' _=>d.length-(intOf i').toNat);case atStart=>exact⟨0,Nat.zero_le _,rfl,HG.out,by simp[jL];exact HR.out⟩
   case round=>
    clear HG HR;obtain⟨m,hm,rfl,hg,fe⟩:=hrel;have HG1:=aa hg;have HR1:=aa fe;clear hg fe;have ow:=uA d HD.out i m;obtain⟨x,hx⟩:∃x,vs[i]+jL d i m=x:=⟨_,rfl⟩;have hvl':i<(vs.set i x).length:=(by simpa using mH);have HX:=aa hx;rw[hx] at HR1;have x0:0<=x:=(by omega);have x1:x<=20972000000:=(by omega);clear hx;have s0:=HR1.out.iat i hvl';rw[List.getElem_set_self] at s0;have s1:=HR1.out.free i;have s2:=HR1.out.has;by_cases aA:m<d.length
    ·obtain⟨b',o',rfl,⟨e0,_⟩,⟨e1,_⟩,⟨e2,_⟩,⟨e3,_⟩⟩:=bP H1.out HG1.out m aA;have Ip:=HD.out m aA;by_cases hs:d[m].supply=(i:Int)
     ·have hsb:(d[m].supply==(i:Int))=true:=(by simp[hs]);have hN:x+d[m].load=vs[i]+jL d i (m+1):=by
       have:=HX.out;simp only[jL,aA,dif_pos,if_pos hs];omega
      have HN:=aa hN;have l0:=Ip.1;have l1:=Ip.2;clear hs hN Ip;go_wp2_with fail;go_region;all_goals go_wp2_with fail
      all_goals go_roundw
      case rel=>
       refine⟨m+1,by omega,by go_num,?_,?_⟩
       ·repeat(first|with_reducible exact HG1.out|with_reducible refine Gr.setCell (Nat.le_refl _) _ ?_|with_reducible refine Gr.alloc _ ?_|with_reducible refine Gr.drew ?_)
       rw[<-HN.out];have:=(HR1.out.iset i (x+d[m].load));rw[List.set_set] at this;exact this.gr grr
      case measure=>simp[intOf];omega
     have hsb:(d[m].supply==(i:Int))=false:=(by simp[hs]);have hN:x=vs[i]+jL d i (m+1):=by have:=HX.out;simp only[jL,aA,dif_pos,if_neg hs];omega
     have HN:=aa hN;clear hs hN Ip;go_wp2_with fail;go_roundw;case rel=>exact⟨m+1,by omega,by go_num,HG1.out.alloc _,by rw[<-HN.out];exact HR1.out.gr ((gfl _).alloc _)⟩
     case measure=>simp[intOf];omega
    obtain⟨⟨c0,c0w,zM⟩,_⟩:=bG.mono _ _ _ _ _ HG1.out HS.out;have jp:x=ld l d i:=by have hm':m=d.length:=(by omega);rw[On l d i hn,<-HX.out,VI.out,hm'];unfold own;omega
    have HH:nt l[i] i:=(by obtain⟨_,q⟩:=OK.out i hn;exact q.1);have p0:=HH.1;have p1:=HH.2.1;clear HH ow;have XL:=aa jp;clear jp;by_cases z9:0<=l[i].parent
    ·obtain⟨p,iy⟩:=Int.eq_ofNat_of_zero_le z9;have PP:=aa iy;rw[iy] at c0 p1;clear iy z9 p0 c0w zM;have hpv:p<vs.length:=(by have:=HI.out.1;omega);have dw:p<(vs.set i x).length:=(by simpa using hpv);have t0:=HR1.out.iat p dw;rw[List.getElem_set_ne (by omega)] at t0;have t1:=HR1.out.free p;have hpi:(p:Int)<l.length:=(by omega);have vp:vs[p]=up l d (i+1) p:=(by have:=(HI.out.2 p hpv).2 (by omega);simpa using this);have ub:=Dh l d HD.out f1 hf (i+1) p;rw[<-vp] at ub;have ub2:=ub.1;have ub3:=ub.2;clear vp ub;have bS:¬i=p:=(by omega);go_wp2_with fail;go_region;all_goals go_wp2_with fail
     all_goals go_roundw
     case rel=>
      refine⟨i,by omega,by go_num,?_,(vs.set i x).set p (vs[p]+x),?_,?_⟩
      ·repeat(first|with_reducible exact HG1.out|with_reducible refine Gr.setCell (Nat.le_refl _) _ ?_|with_reducible refine Gr.alloc _ ?_|with_reducible refine Gr.drew ?_)
      ·exact(HR1.out.iset p _).gr grr
      rw[XL.out];exact HI.out.step1 hn p PP.out (by omega) hpv
     case measure=>simp[intOf]
    have zD:l[i].parent<0:=(by omega);have hN:=aa (HI.out.step0 hn zD);go_wp2_with fail;go_roundw;case rel=>exact⟨i,by omega,by go_num,HG1.out,vs.set i x,HR1.out,by rw[XL.out];exact hN.out⟩
    case measure=>simp[intOf]
end
end Go.Proofs.YtlmhkjdkcoiioaaGreatDoor
