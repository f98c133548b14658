/- Lemmas and contracts for the proof of PointAlone (several texts in one, printed by wip/tools/pack.py): Kk Kl. -/
import Derived.Test.YtlmhkjdkcoiioaaGreatDoorAl8pd
import Derived.Maps.OwnSet
import Derived.ArgAppend
import Derived.Test.YtlmhkjdkcoiioaaGreatDoorAl8pf
import Derived.Test.YtlmhkjdkcoiioaaGreatDoorAl8pe
set_option maxRecDepth 100000
set_option maxHeartbeats 16000000
set_option linter.unusedVariables false
set_option linter.unusedSectionVars false
set_option linter.unusedSimpArgs false
namespace Go.Proofs.YtlmhkjdkcoiioaaGreatDoor
def ba{α β:Type}[DecidableEq α](V:List (α×β))(k:α):Option β:=(V.find? (fun p=>decide (p.1=k))).map (·.2)
theorem Jm{α β:Type}[DecidableEq α](k:α):ba ([]:List (α×β)) k=none:=rfl
theorem j7{α β:Type}[DecidableEq α](q:α×β)(V:List (α×β))(k:α):ba (q::V) k=if q.1=k then some q.2 else ba V k:=by unfold ba;by_cases h:q.1=k<;>simp[h]
theorem wW{α β:Type}[DecidableEq α](V:List (α×β))(k j:α)(x:β):ba (V++ [(k,x)]) j=if(ba V j).isSome then ba V j else if k=j then some x else none:=by
 induction V with
 |nil=>simp[j7,Jm]
 |cons q V ih=>rw[List.cons_append,j7,j7,ih];by_cases h:q.1=j<;>simp[h]
theorem fZ{α β:Type}[DecidableEq α]{V:List (α×β)}{k:α}{x:β}(h:ba V k=some x):(k,x)∈V:=by
 induction V with
 |nil=>cases h
 |cons q V ih=>
  rw[j7] at h;by_cases e:q.1=k
  ·rw[if_pos e] at h;cases h;subst e;exact List.mem_cons_self
  rw[if_neg e] at h;exact List.mem_cons_of_mem _ (ih h)
theorem wG{α β:Type}[DecidableEq α]{V:List (α×β)}{k:α}:ba V k=none↔k∉V.map (·.1):=by
 induction V with
 |nil=>simp[Jm]
 |cons q V ih=>
  rw[j7];by_cases e:q.1=k
  ·simp[e]
  rw[if_neg e,ih];simp;intro _ h;exact e h.symm
theorem uV{α β:Type}[DecidableEq α]{V:List (α×β)}(hn:(V.map (·.1)).Nodup){k:α}{x:β}(h:(k,x)∈V):ba V k=some x:=by
 induction V with
 |nil=>cases h
 |cons q V ih=>
  rw[List.map_cons,List.nodup_cons] at hn;rw[j7];rcases List.mem_cons.1 h with e|h
  ·subst e;simp
  have:q.1≠k:=fun e=>hn.1 (e▸List.mem_map_of_mem (f:=(·.1)) h);rw[if_neg this];exact ih hn.2 h
theorem LZ{α γ β:Type}[DecidableEq α][DecidableEq γ](f:α->γ)(V:List (α×β))(k:α)(hf:∀q∈V,f q.1=f k->q.1=k):ba (V.map fun q=>(f q.1,q.2)) (f k)=ba V k:=by
 induction V with
 |nil=>rfl
 |cons q V ih=>
  rw[List.map_cons,j7,j7,ih (fun q' h=>hf q' (List.mem_cons_of_mem _ h))];by_cases e:q.1=k
  ·simp[e]
  have:f q.1≠f k:=fun h=>e (hf q List.mem_cons_self h);simp[e,this]
theorem UY{n:Nat}:∀{l:List Nat},l.Nodup->(∀x∈l,x<n)->l.length<=n:=by
 induction n with
 |zero=>
  intro l _ h;cases l with
  |nil=>simp
  |cons x l=>have:=h x List.mem_cons_self;omega
 |succ n ih=>
  intro l hn h;have h2:(l.erase n).length<=n:=ih (hn.erase n) (fun x hx=>by
   have h1:=h x (List.mem_of_mem_erase hx);have:x≠n:=fun e=>by subst e;exact(List.Nodup.not_mem_erase hn) hx
   omega)
  have:=List.length_erase (a:=n) (l:=l);split at this<;>omega
theorem zW{n:Nat}{l:List Int}(hn:l.Nodup)(h:∀x∈l,0<=x/\x<(n:Int)):l.length<=n:=by
 have h1:(l.map Int.toNat).Nodup:=by rw[List.nodup_iff_pairwise_ne,List.pairwise_map];exact hn.imp_of_mem fun{a b} ha hb vE e=>vE (by have:=h a ha;have:=h b hb;omega)
 have:=UY (n:=n) h1 (fun x hx=>by obtain⟨y,hy,rfl⟩:=List.mem_map.1 hx;have:=h y hy;omega)
 simpa using this
section
variable {α:Type} [DecidableEq α] (nb:α->List (Int×Int×α))
def jj(d:Int)(V:List (α×Int))(t:Int×Int×α):List (α×Int):=if(ba V t.2.2).isSome then V else V++ [(t.2.2,d+1)]
def qu(V:List (α×Int))(p:Nat):List (α×Int):=match V[p]? with
 |none=>V
 |some q=>(nb q.1).foldl (jj q.2) V
def aW(src:α):Nat->List (α×Int)
 |0=> [(src,0)]
 |p+1=>qu nb (aW src p) p
theorem EU(d:Int)(ts:List (Int×Int×α)):∀V:List (α×Int),∃ext,ts.foldl (jj d) V=V++ext/\(∀q∈ext,q.2=d+1/\∃t∈ts,t.2.2=q.1)/\(∀t∈ts,(ba (ts.foldl (jj d) V) t.2.2).isSome)/\((V.map (·.1)).Nodup->((ts.foldl (jj d) V).map (·.1)).Nodup):=by
 induction ts with
 |nil=>intro V;exact⟨[],by simp,by simp,by simp,fun h=>h⟩
 |cons t ts ih=>
  intro V;obtain⟨ext,e1,e2,e3,e4⟩:=ih (jj d V t);have Vm:∀(W ext:List (α×Int)) k,(ba W k).isSome->(ba (W++ext) k).isSome:=by
   intro W ext k h;cases hh:ba (W++ext) k with
   |some _=>rfl
   |none=>
    rw[wG] at hh;cases hw:ba W k with
    |none=>rw[hw] at h;cases h
    |some x=>exact absurd (List.mem_map_of_mem (f:=(·.1)) (List.mem_append_left ext (fZ hw))) hh
  have ht:(ba (jj d V t) t.2.2).isSome:=by
   unfold jj;by_cases h:(ba V t.2.2).isSome
   ·rw[if_pos h];exact h
   rw[if_neg h,wW,if_neg h];simp
  rw[List.foldl_cons];by_cases h:(ba V t.2.2).isSome
  ·have ea:jj d V t=V:=by unfold jj;rw[if_pos h]
   rw[ea] at e1 e3 e4 ht ⊢;refine⟨ext,e1,fun q hq=>⟨(e2 q hq).1,?_⟩,?_,e4⟩
   ·obtain⟨t',h1,h2⟩:=(e2 q hq).2;exact⟨t',List.mem_cons_of_mem _ h1,h2⟩
   intro t' Aa;rcases List.mem_cons.1 Aa with e|h'
   ·subst e;rw[e1];exact Vm _ _ _ ht
   exact e3 t' h'
  have ea:jj d V t=V++ [(t.2.2,d+1)]:=by unfold jj;rw[if_neg h]
  rw[ea] at e1 e3 e4 ht ⊢;refine⟨(t.2.2,d+1)::ext,by rw[e1];simp,?_,?_,fun hn=>e4 ?_⟩
  ·intro q hq;rcases List.mem_cons.1 hq with e|hq
   ·subst e;exact⟨rfl,t,List.mem_cons_self,rfl⟩
   obtain⟨t',h1,h2⟩:=(e2 q hq).2;exact⟨(e2 q hq).1,t',List.mem_cons_of_mem _ h1,h2⟩
  ·intro t' Aa;rcases List.mem_cons.1 Aa with e|h'
   ·subst e;rw[e1];exact Vm _ _ _ ht
   exact e3 t' h'
  rw[List.map_append,List.nodup_append];refine⟨hn,by simp,?_⟩;intro a ha b hb e;subst e;have ij:a=t.2.2:=by simpa using hb
  subst ij;have:ba V t.2.2=none:=by cases hh:ba V t.2.2 with
   |none=>rfl
   |some _=>rw[hh] at h;exact absurd rfl h
  exact(wG.1 this) ha
structure qW(src:α)(p:Nat)(V:List (α×Int)):Prop where
 nodup:(V.map (·.1)).Nodup
 first:V[0]?=some (src,0)
 nonneg:∀q∈V,0<=q.2/\(q.2=0->q.1=src)
 sorted:∀(i j:Nat) (a b:α×Int),i<=j->V[i]?=some a->V[j]?=some b->a.2<=b.2
 bound:∀(a b:α×Int),V[p]?=some a->b∈V->b.2<=a.2+1
 done:∀(i:Nat),i<p->∀a,V[i]?=some a->∀t∈nb a.1,∃e,(t.2.2,e)∈V/\e<=a.2+1
 par:∀b∈V,b=(src,0)∨∃a∈V,b.2=a.2+1/\∃t∈nb a.1,t.2.2=b.1
theorem qW.start(src:α):qW nb src 0 [(src,0)] where
 nodup:=by simp
 first:=rfl
 nonneg:=by
  intro q hq;have:q=(src,0):=by simpa using hq
  subst this;exact⟨Int.le_refl _,fun _=>rfl⟩
 sorted:=by
  intro i j a b zC ha hb;cases i with
  |succ i=>simp at ha
  |zero=>cases j with
   |succ j=>simp at hb
   |zero=>simp at ha hb;subst ha;subst hb;exact Int.le_refl _
 bound:=by intro a b ha hb;simp at ha hb;subst ha;subst hb;simp
 done:=by intro i hi;omega
 par:=by intro b hb;left;simpa using hb
theorem qW.step{src:α}{p:Nat}{V:List (α×Int)}(h:qW nb src p V):qW nb src (p+1) (qu nb V p)/\∃ext,qu nb V p=V++ext:=by
 unfold qu;cases hp:V[p]? with
 |none=>
  have hl:V.length<=p:=by simpa using hp
  refine⟨⟨h.nodup,h.first,h.nonneg,h.sorted,?_,?_,h.par⟩,[],by simp⟩
  ·intro a b ha;have:V[p+1]?=none:=by simp;omega
   rw[this] at ha;cases ha
  intro i hi a ha;have:i<V.length:=(List.getElem?_eq_some_iff.1 ha).1;exact h.done i (by omega) a ha
 |some q=>
  obtain⟨ext,e1,e2,e3,e4⟩:=EU (α:=α) q.2 (nb q.1) V;simp only;refine⟨?_,ext,e1⟩;have dw:p<V.length:=(List.getElem?_eq_some_iff.1 hp).1;have hl:=h.nonneg q (List.mem_of_getElem? hp);have hold:∀(i:Nat) (a:α×Int),i<V.length->(V++ext)[i]?=some a->V[i]?=some a:=fun i a hi ha=>by rwa [List.getElem?_append_left hi] at ha
  have Pd:∀(i:Nat) (a:α×Int),(V++ext)[i]?=some a->(i<V.length/\V[i]?=some a)∨(V.length<=i/\a∈ext):=fun i a ha=>by
   by_cases hi:i<V.length
   ·exact .inl ⟨hi,hold i a hi ha⟩
   rw[List.getElem?_append_right (by omega)] at ha;exact .inr ⟨by omega,List.mem_of_getElem? ha⟩
  have hs:∀(i j:Nat) (a b:α×Int),i<=j->(V++ext)[i]?=some a->(V++ext)[j]?=some b->a.2<=b.2:=by
   intro i j a b zC ha hb;rcases Pd i a ha with⟨hi,ha'⟩|⟨hi,ha'⟩
   ·rcases Pd j b hb with⟨hj,ij⟩|⟨hj,ij⟩
    ·exact h.sorted i j a b zC ha' ij
    rw[(e2 b ij).1];exact h.bound q a hp (List.mem_of_getElem? ha')
   rcases Pd j b hb with⟨hj,ij⟩|⟨hj,ij⟩
   ·omega
   rw[(e2 b ij).1,(e2 a ha').1];exact Int.le_refl _
  have hn:=e4 h.nodup;rw[e1] at hn e3 ⊢;refine⟨hn,?_,?_,hs,?_,?_,?_⟩
  ·rw[List.getElem?_append_left (by have:=(List.getElem?_eq_some_iff.1 h.first).1;omega)];exact h.first
  ·intro x hx;rcases List.mem_append.1 hx with hx|hx
   ·exact h.nonneg x hx
   have:=(e2 x hx).1;exact⟨by omega,fun e=>by omega⟩
  ·intro a b ha hb;have hqa:q.2<=a.2:=hs p (p+1) q a (by omega) (by rw[List.getElem?_append_left dw];exact hp) ha;rcases List.mem_append.1 hb with hb|hb
   ·have:=h.bound q b hp hb;omega
   have:=(e2 b hb).1;omega
  ·intro i hi a ha t ht;by_cases e:i=p
   ·subst e;have:a=q:=(by have:=hold i a dw ha;rw[hp] at this;cases this;rfl);subst this;have sE:=e3 t ht;cases hk:ba (V++ext) t.2.2 with
    |none=>rw[hk] at sE;cases sE
    |some x=>
     refine⟨x,fZ hk,?_⟩;rcases List.mem_append.1 (fZ hk) with hx|hx
     ·exact h.bound a _ hp hx
     have:=(e2 _ hx).1;simp at this;omega
   have hil:i<V.length:=by omega
   obtain⟨x,hx,mI⟩:=h.done i (by omega) a (hold i a hil ha) t ht;exact⟨x,List.mem_append_left _ hx,mI⟩
  intro b hb;rcases List.mem_append.1 hb with hb|hb
  ·rcases h.par b hb with e|⟨a,ha,q1,q2⟩
   ·exact .inl e
   exact .inr ⟨a,List.mem_append_left _ ha,q1,q2⟩
  obtain⟨q1,t,q2,q3⟩:=e2 b hb;exact .inr ⟨q,List.mem_append_left _ (List.mem_of_getElem? hp),q1,t,q2,q3⟩
theorem qW.after(src:α):∀p,qW nb src p (aW nb src p)
 |0=>qW.start nb src
 |p+1=>((qW.after src p).step nb).1
structure tu(src:α)(D:α->Option Int):Prop where
 zero:D src=some 0
 only:∀n,D n=some 0->n=src
 nonneg:∀n d,D n=some d->0<=d
 par:∀n d,D n=some d->0<d->∃m t,D m=some (d-1)/\t∈nb m/\t.2.2=n
 step:∀m d t,D m=some d->t∈nb m->∃e,D t.2.2=some e/\e<=d+1
theorem qW.dist{src:α}{p:Nat}{V:List (α×Int)}(h:qW nb src p V)(hp:V.length<=p):tu nb src (ba V) where
 zero:=uV h.nodup (List.mem_of_getElem? h.first)
 only:=fun n hn=>(h.nonneg _ (fZ hn)).2 rfl
 nonneg:=fun n d hn=>(h.nonneg _ (fZ hn)).1
 par:=by
  intro n d hn hd;rcases h.par _ (fZ hn) with e|⟨a,ha,q1,t,q2,q3⟩
  ·injection e with e1 e2;omega
  exact⟨a.1,t,by rw[uV h.nodup (k:=a.1) (x:=a.2) ha];congr 1;simp at q1;omega,q2,q3⟩
 step:=by intro m d t hm ht;obtain⟨i,hi⟩:=List.getElem?_of_mem (fZ hm);have hil:i<V.length:=(List.getElem?_eq_some_iff.1 hi).1;obtain⟨e,he,mI⟩:=h.done i (by omega) _ hi t ht;exact⟨e,uV h.nodup he,mI⟩
theorem tu.le{src:α}{D D':α->Option Int}(h:tu nb src D)(h':tu nb src D'):∀(k:Nat) n,D n=some (k:Int)->∃d',D' n=some d'/\d'<=k:=by
 intro k;induction k with
 |zero=>intro n hn;have:=h.only n hn;subst this;exact⟨0,h'.zero,by simp⟩
 |succ k ih=>intro n hn;obtain⟨m,t,h1,h2,h3⟩:=h.par n _ hn (by omega);obtain⟨d',h4,h5⟩:=ih m (by rw[h1];congr 1;omega);obtain⟨e,h6,h7⟩:=h'.step m d' t h4 h2;rw[h3] at h6;exact⟨e,h6,by omega⟩
theorem tu.unique{src:α}{D D':α->Option Int}(h:tu nb src D)(h':tu nb src D'):D=D':=by
 funext n
 cases hd:D n with
 |none=>
  cases hd':D' n with
  |none=>rfl
  |some d=>have:=h'.nonneg n d hd';obtain⟨e,he,_⟩:=h'.le nb h d.toNat n (by rw[hd'];congr 1;omega);rw[hd] at he;cases he
 |some d=>have h0:=h.nonneg n d hd;obtain⟨e,he,mI⟩:=h.le nb h' d.toNat n (by rw[hd];congr 1;omega);have h1:=h'.nonneg n e he;obtain⟨e2,he2,hle2⟩:=h'.le nb h e.toNat n (by rw[he];congr 1;omega);rw[hd] at he2;cases he2;rw[he];congr 1;omega
def jt(D:α->Int):Nat->α->List (Int×Int)
 |0,_=> []
 |f+1,x=>if 0<D x then match (nb x).find? (fun t=>decide (D t.2.2=D x-1)) with
  |some t=>(t.1,t.2.1)::jt D f t.2.2
  |none=> [] else []
def Un(D:α->Int):Nat->α->α
 |0,x=>x
 |f+1,x=>if 0<D x then match (nb x).find? (fun t=>decide (D t.2.2=D x-1)) with
  |some t=>Un D f t.2.2
  |none=>x else x
end
section
open Classical
def kOf(l:List Clk)(i:Nat):Int:=match l[i]? with|some c=>(c.choices.length:Int)|none=>0
def sOf(s:List Int)(i:Nat):Int:=s.getD i 0
theorem lu{l:List Clk}{i:Nat}(h:i<l.length):kOf l i=(l[i].choices.length:Int):=by simp[kOf,List.getElem?_eq_getElem h]
theorem lZ{s:List Int}{i:Nat}(h:i<s.length):sOf s i=s[i]:=by simp[sOf,List.getD_eq_getElem?_getD,List.getElem?_eq_getElem h]
theorem Nv{s:List Int}{i j:Nat}{x:Int}(h:i<s.length):sOf (s.set i x) j=if j=i then x else sOf s j:=Dn s i j x 0 h
theorem TU{l:List Clk}{s:List Int}(hl:s.length=l.length)(h:∀i,i<l.length->0<=sOf s i/\sOf s i<kOf l i):aI l s:=
 ⟨hl,fun i h1 h2=>by have:=h i h1;rw[lZ h2,lu h1] at this;exact this⟩
theorem aI.at{l:List Clk}{s:List Int}(h:aI l s){i:Nat}(hi:i<l.length):0<=sOf s i/\sOf s i<kOf l i:=by rw[lZ (by rw[h.1];exact hi),lu hi];exact h.2 i hi (by rw[h.1];exact hi)
theorem aI.set{l:List Clk}{s:List Int}(h:aI l s){i:Nat}{x:Int}(hi:i<l.length)(h0:0<=x)(h1:x<kOf l i):aI l (s.set i x):=
 TU (by rw[List.length_set];exact h.1) fun j hj=>by
  rw[Nv (by rw[h.1];exact hi)];split
  ·rename_i e;subst e;exact⟨h0,h1⟩
  exact h.at hj
theorem ext_s{s t:List Int}(hl:s.length=t.length)(h:∀i,i<s.length->sOf s i=sOf t i):s=t:=
 List.ext_getElem hl fun i h1 h2=>by have:=h i h1;rwa [lZ h1,lZ h2] at this
theorem Rm{s:List Int}{i:Nat}{x:Int}(hi:i<s.length):(s.set i x).set i (sOf s i)=s:=by rw[List.set_set,lZ hi];simp
def jo(K S:Nat->Int):Nat->Int
 |0=>0
 |j+1=>jo K S j*K j+S j
def num(l:List Clk)(s:List Int):Int:=jo (kOf l) (sOf s) l.length
theorem Fk{l:List Clk}{s:List Int}(h:aI l s):∀j,j<=l.length->0<=jo (kOf l) (sOf s) j/\jo (kOf l) (sOf s) j<(bF (l.take j):Nat):=by
 intro j;induction j with
 |zero=>intro _;simp[jo,bF]
 |succ j ih=>
  intro hj;obtain⟨h0,h1⟩:=ih (by omega);have h2:=h.at (i:=j) (by omega);have hk:=lu (l:=l) (i:=j) (by omega);simp only[jo];rw[ql l j (by omega),Int.natCast_mul,<-hk];have gH:0<=kOf l j:=by omega
  have h3:jo (kOf l) (sOf s) j*kOf l j<=((bF (l.take j):Nat)-1)*kOf l j:=Int.mul_le_mul_of_nonneg_right (by omega) gH;have h4:0<=jo (kOf l) (sOf s) j*kOf l j:=Int.mul_nonneg h0 gH;rw[Int.sub_mul] at h3;omega
theorem mO{l:List Clk}{s:List Int}(h:aI l s):0<=num l s/\num l s<(bF l:Nat):=by have:=Fk h l.length (Nat.le_refl _);rwa [List.take_length] at this
theorem xH{l:List Clk}{s:List Int}(h:aI l s){j:Nat}(hj:j<l.length):jo (kOf l) (sOf s) (j+1)/kOf l j=jo (kOf l) (sOf s) j/\jo (kOf l) (sOf s) (j+1)%kOf l j=sOf s j:=by
 have h2:=h.at hj;simp only[jo];constructor
 ·rw[Int.add_comm,Int.add_mul_ediv_right _ _ (by omega),Int.ediv_eq_zero_of_lt h2.1 h2.2,Int.zero_add]
 rw[Int.add_comm,Int.add_mul_emod_self_right,Int.emod_eq_of_lt h2.1 h2.2]
theorem Cc{l:List Clk}{s t:List Int}(h:aI l s)(k:aI l t)(e:num l s=num l t):s=t:=by
 have:∀j,j<=l.length->jo (kOf l) (sOf s) j=jo (kOf l) (sOf t) j->∀i,i<j->sOf s i=sOf t i:=by
  intro j;induction j with
  |zero=>intro _ _ i hi;omega
  |succ j ih=>
   intro hj e i hi;have d1:=xH h (j:=j) (by omega);have d2:=xH k (j:=j) (by omega);rw[e] at d1;by_cases zC:i=j
   ·subst zC;rw[<-d1.2,<-d2.2]
   exact ih (by omega) (by rw[<-d1.1,<-d2.1]) i (by omega)
 exact ext_s (by rw[h.1,k.1]) fun i hi=>this l.length (Nat.le_refl _) e i (by rw[<-h.1];exact hi)
abbrev Nbr:=Int×Int×List Int
def jZ(cal:List Int->Bool)(s:List Int)(i j:Nat):Option Nbr:=if(j:Int)≠sOf s i/\cal (s.set i j)=true then some (i,j,s.set i j) else none
def fa(cal:List Int->Bool)(s:List Int)(i k:Nat):List Nbr:=(List.range k).filterMap (jZ cal s i)
def l8(l:List Clk)(cal:List Int->Bool)(s:List Int)(i:Nat):List Nbr:=(List.range i).flatMap fun i=>fa cal s i (kOf l i).toNat
def nbS(l:List Clk)(cal:List Int->Bool)(s:List Int):List Nbr:=l8 l cal s l.length
theorem qj(cal:List Int->Bool)(s:List Int)(i k:Nat):fa cal s i (k+1)=fa cal s i k++(jZ cal s i k).toList:=by unfold fa;rw[List.range_succ,List.filterMap_append];cases h:jZ cal s i k<;>simp[h]
theorem oK(l:List Clk)(cal:List Int->Bool)(s:List Int)(i:Nat):l8 l cal s (i+1)=l8 l cal s i++fa cal s i (kOf l i).toNat:=by unfold l8;rw[List.range_succ,List.flatMap_append];simp
theorem qo{l:List Clk}{cal:List Int->Bool}{s:List Int}{t:Nbr}:t∈nbS l cal s↔∃i j:Nat,i<l.length/\(j:Int)<kOf l i/\(j:Int)≠sOf s i/\cal (s.set i j)=true/\t=((i:Int),(j:Int),s.set i j):=by
 unfold nbS l8 fa jZ;simp only[List.mem_flatMap,List.mem_filterMap,List.mem_range];constructor
 ·rintro⟨i,hi,j,hj,h⟩;split at h
  ·rename_i hc;cases h;exact⟨i,j,hi,by omega,hc.1,hc.2,rfl⟩
  cases h
 rintro⟨i,j,hi,hj,h1,h2,rfl⟩;exact⟨i,hi,j,by omega,by rw[if_pos ⟨h1,h2⟩]⟩
theorem PQ{l:List Clk}{cal:List Int->Bool}{s:List Int}{t:Nbr}(h:t∈nbS l cal s)(hs:aI l s):aI l t.2.2/\cal t.2.2=true:=by obtain⟨i,j,hi,hj,h1,h2,rfl⟩:=qo.1 h;exact⟨hs.set hi (by omega) hj,h2⟩
theorem Xm{l:List Clk}{cal:List Int->Bool}{s:List Int}{t:Nbr}(h:t∈nbS l cal s)(hs:aI l s)(hc:cal s=true):∃u∈nbS l cal t.2.2,u.2.2=s:=by
 obtain⟨i,j,hi,hj,h1,h2,rfl⟩:=qo.1 h;have lJ:i<s.length:=by rw[hs.1];exact hi
 obtain⟨h3,h4⟩:=hs.at hi;have e:(s.set i (j:Int)).set i (sOf s i)=s:=Rm lJ;refine⟨((i:Int),sOf s i,s),qo.2 ⟨i,(sOf s i).toNat,hi,by omega,?_,?_,?_⟩,rfl⟩
 ·simp only;rw[Nv lJ,if_pos rfl];omega
 ·simp only;rw[show(((sOf s i).toNat:Nat):Int)=sOf s i by omega,e];exact hc
 simp only;rw[show(((sOf s i).toNat:Nat):Int)=sOf s i by omega,e]
theorem mX{l:List Clk}{cal:List Int->Bool}{src:List Int}(hs:aI l src)(hc:cal src=true):∀p,∀q∈aW (nbS l cal) src p,aI l q.1/\cal q.1=true:=by
 intro p;induction p with
 |zero=>
  intro q hq;have:q=(src,0):=by simpa [aW] using hq
  subst this;exact⟨hs,hc⟩
 |succ p ih=>
  intro q hq;simp only[aW,qu] at hq;split at hq
  ·exact ih q hq
  rename_i x hx;obtain⟨ext,e1,e2,_⟩:=EU x.2 (nbS l cal x.1) (aW (nbS l cal) src p);rw[e1] at hq;rcases List.mem_append.1 hq with hq|hq
  ·exact ih q hq
  obtain⟨_,t,ht,e⟩:=e2 q hq;rw[<-e];exact PQ ht (ih x (List.mem_of_getElem? hx)).1
theorem mP{l:List Clk}{cal:List Int->Bool}{src:List Int}(hs:aI l src)(hc:cal src=true)(p:Nat):(aW (nbS l cal) src p).length<=bF l:=by
 have hn:=(qW.after (nbS l cal) src p).nodup;have ho:=mX hs hc p;have h1:((aW (nbS l cal) src p).map (fun q=>num l q.1)).Nodup:=by rw[List.nodup_iff_pairwise_ne,List.pairwise_map] at hn ⊢;exact hn.imp_of_mem fun{a b} ha hb vE e=>vE (Cc (ho a ha).1 (ho b hb).1 e)
 have:=zW h1 (n:=bF l) (fun x hx=>by obtain⟨q,hq,rfl⟩:=List.mem_map.1 hx;exact mO (ho q hq).1)
 simpa using this
structure jc(l:List Clk)(cal:List Int->Bool)(src:List Int)(D:List Int->Option Int):Prop where
 dist:tu (nbS l cal) src D
 ok:∀x d,D x=some d->aI l x/\cal x=true
theorem jc.near{l:List Clk}{cal:List Int->Bool}{src:List Int}{D:List Int->Option Int}(h:jc l cal src D){x:List Int}{d:Int}(hx:D x=some d)(hd:0<d):∃t∈nbS l cal x,D t.2.2=some (d-1):=by obtain⟨m,t,h1,h2,h3⟩:=h.dist.par x d hx hd;obtain⟨u,hu,e⟩:=Xm h2 (h.ok m _ h1).1 (h.ok m _ h1).2;rw[h3] at hu;exact⟨u,hu,by rw[e];exact h1⟩
theorem yS{l:List Clk}{cal:List Int->Bool}{src:List Int}(hs:aI l src)(hc:cal src=true)(p:Nat)(hp:(aW (nbS l cal) src p).length<=p):jc l cal src (ba (aW (nbS l cal) src p)):=
 ⟨(qW.after _ src p).dist _ hp,fun x d hx=>mX hs hc p _ (fZ hx)⟩
def dz(D:List Int->Option Int)(x:List Int):Int:=(D x).getD 0
theorem jc.found{l:List Clk}{cal:List Int->Bool}{src:List Int}{D:List Int->Option Int}(h:jc l cal src D){x:List Int}{d:Int}(hx:D x=some d)(hd:0<d):
  ∃t,(nbS l cal x).find? (fun t=>decide (dz D t.2.2=dz D x-1))=some t/\t∈nbS l cal x/\D t.2.2=some (d-1):=by
 obtain⟨u,hu,e⟩:=h.near hx hd;cases hf:(nbS l cal x).find? (fun t=>decide (dz D t.2.2=dz D x-1)) with
 |none=>have:=List.find?_eq_none.1 hf u hu;simp[dz,e,hx] at this
 |some t=>have h1:=List.mem_of_find?_eq_some hf;have h2:=List.find?_some hf;refine⟨t,rfl,h1,?_⟩;obtain⟨f,Ii,_⟩:=h.dist.step x d t hx h1;simp[dz,Ii,hx] at h2;rw[Ii,h2]
noncomputable def l5(l:List Clk)(cal:List Int->Bool)(D:List Int->Option Int)(a:List Int):List (Int×Int):=jt (nbS l cal) (dz D) (dz D a).toNat a
theorem QM{l:List Clk}{cal:List Int->Bool}{src:List Int}{D:List Int->Option Int}(h:jc l cal src D):∀(f:Nat) (x:List Int),D x=some (f:Int)->(jt (nbS l cal) (dz D) f x).length=f/\Un (nbS l cal) (dz D) f x=src:=by
 intro f;induction f with
 |zero=>intro x hx;exact⟨rfl,h.dist.only x hx⟩
 |succ f ih=>
  intro x hx;have hz:dz D x=((f+1:Nat):Int):=by simp[dz,hx]
  obtain⟨t,h1,h2,h3⟩:=h.found hx (by omega);obtain⟨i1,i2⟩:=ih t.2.2 (by rw[h3];congr 1;omega);simp only[jt,Un];rw[if_pos (by omega),if_pos (by omega),h1];exact⟨by simp[i1],i2⟩
theorem zR{l:List Clk}{cal:List Int->Bool}{src:List Int}{D:List Int->Option Int}(h:jc l cal src D){x:List Int}{d:Int}(hx:D x=some d):((l5 l cal D x).length:Int)=d:=by
 have h0:=h.dist.nonneg x d hx;have hz:dz D x=d:=by simp[dz,hx]
 have:=QM h d.toNat x (by rw[hx];congr 1;omega);rw[l5,hz,this.1];omega
section
variable {l:List Clk} {b:List Int} {D:List Int->Option Int}
end
end
section
open Go.RowKit Go.Maps
theorem uE{k:Int}(h:aK k):(Lit.int .i64 k).wf=true:=by unfold aK at h;exact WalkArith.wf_i64 (by omega)
theorem tA:Keyed Tryz.prog 3:=int_keyed Tryz.underlying3
theorem L5(w:World):(zeroValue 3).run Tryz.prog w= .ok (.int .i64 0) w:=by kernel_rfl
theorem Sn(w:World):(zeroValue 4).run Tryz.prog w= .ok (.bool false) w:=by kernel_rfl
def lC{β:Type}(w:World)(E:TypeId)(f:β->Lit)(B:Nat)(V:List (Int×β)):Prop:=
 ∃D:DataW Unit,w.ownsMap Tryz.prog 3 (plainElem Tryz.prog E) B V.length D/\(∀k,Maps.has D (.int .i64 k)=(ba V k).isSome)/\∀k x z,ba V k=some x->D.atKey (.int .i64 k) z= .lit (f x)
abbrev Dp(w:World)(B:Nat)(V:List (Int×Bool)):Prop:=lC w 4 Lit.bool B V
abbrev xx(w:World)(B:Nat)(V:List (Int×Int)):Prop:=lC w 3 (Lit.int .i64) B V
section
variable {β:Type} {w:World} {E:TypeId} {f:β->Lit} {B:Nat} {V:List (Int×β)}
theorem lC.has(h:lC w E f B V):Has w B:=by obtain⟨D,h,_⟩:=h;exact h.lt
theorem lC.kept{w':World}{row:Option Nat}(h:lC w E f B V)(hg:w.grownBy w' row)(bS:some B≠row):lC w' E f B V:=by obtain⟨D,h1,h2⟩:=h;exact⟨D,h1.kept hg bS,h2⟩
theorem lC.block{w':World}(h:lC w E f B V)(hb:w'.heap[B]?=w.heap[B]?):lC w' E f B V:=by obtain⟨D,⟨es,clock,h0,h1⟩,h2⟩:=h;exact⟨D,⟨es,clock,hb.trans h0,h1⟩,h2⟩
theorem lC.gr{w':World}(h:lC w E f B V)(hg:Gr w w'):lC w' E f B V:=h.block (hg.below.block B h.has)
theorem lC.made(w:World)(E:TypeId)(f:β->Lit):lC (w.alloc (.map #[] 0)) E f w.heap.size ([]:List (Int×β)):=
 ⟨.map [],World.ownsMap_made _ _ _ _,fun k=>rfl,fun k x z h=>by cases h⟩
theorem lC.stored{w':World}{D:DataW Unit}{k:Int}{x:β}(h2:∀k,Maps.has D (.int .i64 k)=(ba V k).isSome)(h3:∀k x z,ba V k=some x->D.atKey (.int .i64 k) z= .lit (f x))(hn:ba V k=none)(hi:IsMap D)
  (h:w'.ownsMap Tryz.prog 3 (plainElem Tryz.prog E) B (V.length+1) (D.put (.int .i64 k) (.lit (f x)))):lC w' E f B (V++ [(k,x)]):=by
 have hkey:WideAt.IsKeyLit (.int .i64 k):=by simp[WideAt.IsKeyLit]
 refine⟨_,by simpa using h,fun j=>?_,fun j y z hj=>?_⟩
 ·rw[wW];by_cases e:k=j
  ·subst e;rw[has_put_same hi hkey,hn];simp
  rw[has_put_other (by simpa using fun q:j=k=>e q.symm),h2 j];split<;>simp_all
 rw[wW] at hj;by_cases e:k=j
 ·subst e;rw[hn] at hj;simp at hj;subst hj;exact atKey_put_same hi hkey _ _
 rw[atKey_put_other (by simpa using fun q:j=k=>e q.symm)];simp[e] at hj;exact h3 j y z hj.2
end
theorem AM{v:Value}{z:DataW Unit×List MemPlace}(h:plainElem Tryz.prog 4 v=some z):∃x,v= .bool x/\z.1= .lit (.bool x):=by
 have he:Tryz.prog.underlying 4=some .bool:=Tryz.underlying4;unfold plainElem at h;rw[he] at h;cases v<;>simp at h
 subst h;exact⟨_,rfl,rfl⟩
theorem IE{w:World}{B:Nat}{V:List (Int×Bool)}(h:Dp w B V){k:Int}(hk:aK k):
  (Instr.lookup 156 (.map (some B)) (.int .i64 k) true).run Tryz.prog w= .ok (.tuple #[.bool ((ba V k).getD false),.bool (ba V k).isSome]) w:=by
 obtain⟨D,h1,h2,h3⟩:=h;obtain⟨v,ps,hr,hv⟩:=h1.look_ok tA Tryz.underlying156 (Sn w) (plainElem_bool Tryz.underlying4 false) (keyOf_int_mk Tryz.underlying3 (uE hk));rw[hr,h2 k];obtain⟨x,rfl,hx⟩:=AM hv;cases e:ba V k with
 |none=>rw[atKey_of_not_has (by rw[h2 k,e];rfl)] at hx;simp at hx;subst hx;simp
 |some y=>rw[h3 k y _ e] at hx;simp at hx;subst hx;simp
theorem Ch{w:World}{B:Nat}{V:List (Int×Int)}(h:xx w B V){k:Int}(hk:aK k):
  (Instr.lookup 161 (.map (some B)) (.int .i64 k) true).run Tryz.prog w= .ok (.tuple #[.int .i64 ((ba V k).getD 0),.bool (ba V k).isSome]) w:=by
 obtain⟨D,h1,h2,h3⟩:=h;obtain⟨v,ps,hr,hv⟩:=h1.look_ok tA Tryz.underlying161 (L5 w) (plainElem_int Tryz.underlying3 (by decide)) (keyOf_int_mk Tryz.underlying3 (uE hk));rw[hr,h2 k];obtain⟨x,rfl,hx,_⟩:=plainElem_int_inv Tryz.underlying3 hv;have hx:=congrArg Prod.fst hx;cases e:ba V k with
 |none=>rw[atKey_of_not_has (by rw[h2 k,e];rfl)] at hx;simp at hx;subst hx;simp
 |some y=>rw[h3 k y _ e] at hx;simp at hx;subst hx;simp
theorem se{w:World}{B:Nat}{V:List (Int×Int)}(h:xx w B V){k:Int}(hk:aK k):
  (Instr.lookup 161 (.map (some B)) (.int .i64 k) false).run Tryz.prog w= .ok (.int .i64 ((ba V k).getD 0)) w:=by
 obtain⟨D,h1,h2,h3⟩:=h;obtain⟨c,hr,ot,_⟩:=h1.lookup_int tA Tryz.underlying161 Tryz.underlying3 (L5 w) (keyOf_int_mk Tryz.underlying3 (uE hk));rw[hr];cases e:ba V k with
 |none=>rw[atKey_of_not_has (by rw[h2 k,e];rfl)] at ot;simp at ot;subst ot;simp
 |some y=>rw[h3 k y _ e] at ot;simp at ot;subst ot;simp
theorem Gt{w:World}{B:Nat}{V:List (Int×Bool)}(h:Dp w B V){k:Int}(hk:aK k)(hn:ba V k=none)(hl:V.length<maxLen)(x:Bool):
  ∃w',(Instr.mapUpdate 156 (.map (some B)) (.int .i64 k) (.bool x)).run Tryz.prog w= .ok () w'/\Dp w' B (V++ [(k,x)])/\w.grownBy w' (some B):=by
 obtain⟨D,h1,h2,h3⟩:=h;obtain⟨w',hr,ho,hg⟩:=h1.update tA Tryz.underlying156 hl (keyOf_int_mk Tryz.underlying3 (uE hk)) (plainElem_bool Tryz.underlying4 x);exact⟨w',hr,lC.stored h2 h3 hn h1.isMap ho,hg⟩
theorem zJ{w:World}{B:Nat}{V:List (Int×Int)}(h:xx w B V){k:Int}(hk:aK k)(hn:ba V k=none)(hl:V.length<maxLen)(x:Int)(hx:aK x):
  ∃w',(Instr.mapUpdate 161 (.map (some B)) (.int .i64 k) (.int .i64 x)).run Tryz.prog w= .ok () w'/\xx w' B (V++ [(k,x)])/\w.grownBy w' (some B):=by
 obtain⟨D,h1,h2,h3⟩:=h;obtain⟨w',hr,ho,hg⟩:=h1.update tA Tryz.underlying161 hl (keyOf_int_mk Tryz.underlying3 (uE hk)) (plainElem_int Tryz.underlying3 (uE hx));exact⟨w',hr,lC.stored h2 h3 hn h1.isMap ho,hg⟩
section
variable (w:World) {ops:Array Oper} {rest:List Oper} {o:Oper} {a:Act} {Q:Exit->Act->World->Prop}
theorem Me{K:Act->World->Prop}(t:TypeId)(m x u:Operand)(yd:o.op=Op.mapUpdate t m x u){B:Nat}{k v:Value}(hm:a.eval m= .map (some B))(hx:a.eval x=k)(hu:a.eval u=v){R:World->Prop}
  (hr:∃w',(Instr.mapUpdate t (.map (some B)) k v).run Tryz.prog w= .ok () w'/\R w') (h:∀w',R w'->K (a.put o.dst undef) w'):o.wp Tryz.prog a w K Q:=by
 obtain⟨w',hr,hR⟩:=hr;unfold Oper.wp;simp[execOp,yd,hm,hx,hu,hr,Result.andThen];exact h w' hR
theorem wZ(hg:o.guard=none)(t:TypeId)(m x u:Operand)(yd:o.op=Op.mapUpdate t m x u){B:Nat}{k v:Value}(hm:a.eval m= .map (some B))(hx:a.eval x=k)(hu:a.eval u=v){R:World->Prop}
  (hr:∃w',(Instr.mapUpdate t (.map (some B)) k v).run Tryz.prog w= .ok () w'/\R w') (h:∀w',R w'->wpList Tryz.prog ops Q rest (a.put o.dst undef) w'):wpList Tryz.prog ops Q (o::rest) a w:=
 wpList_plain hg fun _ hK=>Me w t m x u yd hm hx hu hr fun w' hR=>hK _ _ (h w' hR)
end
end
section
open Go.RowKit
def QAt(w:World)(base T:Nat)(v:Value)(xs:List Value):Prop:=
 ∃g off cap arr,v= .slice (some ⟨g,off,none⟩) xs.length cap/\base<=g/\Row w g T arr/\xs.length<=cap/\cap<=maxLen/\off+cap<=arr.length/\∀(j:Nat) u,xs[j]?=some u->arr[off+j]?=some u
theorem QAt.kept{w w':World}{base T:Nat}{v:Value}{xs:List Value}{row:Option Nat}(h:QAt w base T v xs)(hg:w.grownBy w' row)(bS:v.ownBlock≠row):QAt w' base T v xs:=by obtain⟨g,off,cap,arr,rfl,hb,hr,h1⟩:=h;exact⟨g,off,cap,arr,rfl,hb,hr.grown hg (by simpa [Value.ownBlock] using bS),h1⟩
theorem QAt.own{w:World}{base T:Nat}{v:Value}{xs:List Value}(h:QAt w base T v xs):∃g,v.ownBlock=some g/\base<=g/\Has w g:=by obtain⟨g,off,cap,arr,rfl,hb,hr,_⟩:=h;exact⟨g,rfl,hb,hr.has⟩
theorem QAt.head{w:World}{base T:Nat}{v x:Value}{xs:List Value}(h:QAt w base T v (x::xs)):∃g off cap,v= .slice (some ⟨g,off,none⟩) (xs.length+1) cap/\w.cell? ⟨g,off,none⟩=some x/\xs.length+1<=cap/\cap<=maxLen/\base<=g/\(∀W,QAt W base T v (x::xs)->QAt W base T (.slice (some ⟨g,off+1,none⟩) xs.length (cap-1)) xs):=by
 obtain⟨g,off,cap,arr,rfl,hb,hr,h1,h2,h3,h4⟩:=h;have h0:=h4 0 x rfl;simp only[List.length_cons] at h1;refine⟨g,off,cap,rfl,?_,h1,h2,hb,fun W hW=>?_⟩
 ·obtain⟨aA,e⟩:=List.getElem?_eq_some_iff.1 h0;rw[hr.cell off aA];exact congrArg some e
 obtain⟨g',off',cap',arr',e,ij,kF,h1',h2',h3',h4'⟩:=hW;simp only[Value.slice.injEq,Option.some.injEq,Addr.mk.injEq] at e;obtain⟨⟨rfl,rfl,_⟩,_,rfl⟩:=e;refine⟨g,off+1,cap-1,arr',rfl,ij,kF,by omega,by omega,by omega,fun j u hj=>?_⟩;have:=h4' (j+1) u hj;rwa [show off+1+j=off+(j+1) by omega]
section
variable {P:Program} (w:World)
theorem Ji(base:Nat)(t ty T:TypeId)(i:TypeInfo)(z:Value)(ht:P.underlying t=some (.slice T))(hi:P.info? T=some i)(hz:i.zero=some z)(hs:i.size=1)(hb:i.bytes=8)(vQ:z.cells.size=1)
  (v:Value) (xs:List Value) (hq:QAt w base T v xs) (a:Addr) (c:Nat) (x:Value) (hx:w.cell? a=some x) (h1:x.oneCell'=true) (hl:xs.length+1<=1000000) (kR:base<=w.heap.size):
  ∃v' w',(Builtin.append_ #[t,t] ty #[v,.slice (some a) 1 c]).run P w= .ok v' w'/\QAt w' base T v' (xs++ [x])/\w.grownBy w' v.ownBlock/\(v'.ownBlock=v.ownBlock∨∃g,v'.ownBlock=some g/\w.heap.size<=g):=by
 obtain⟨g,off,cap,arr,rfl,hbg,hr,hxc,hcm,qS,Am⟩:=hq;have xg:∀j u,[x][j]?=some u->w.cell? (a.add j)=some u:=by
  intro j u hj
  match j,hj with
  |0,hj=>
   simp at hj;subst hj;have:a.add 0=a:=by obtain⟨b,o,s⟩:=a;cases s<;>simp[Addr.add]
   rw[this];exact hx
 have OS:∀u∈ [x],u.oneCell'=true:=by
  intro u hu;have:u=x:=by simpa using hu
  subst this;exact h1
 by_cases Vk:xs.length+1<=cap
 ·have lG:∀j,j< [x].length->(w.cell? ⟨g,off+xs.length*i.size+j,none⟩).isSome=true:=by
   intro j hj;have hj0:j=0:=by simpa using hj
   subst hj0;rw[hs,hr.cell _ (by omega)];rfl
  have hfr:∀j,j< [x].length->w.frozen? ⟨g,off+xs.length*i.size+j,none⟩=false:=fun j _=>hr.free _;have wk:=run_append_room_cells (P:=P) w t ty T i ht hi g off xs.length cap a 1 c [x] (by simp[hs]) xg OS Vk lG hfr;rw[hs,Nat.mul_one] at wk;have hsc:w.setCells g (off+xs.length) [x]=w.setCell ⟨g,off+xs.length,none⟩ x:=rfl;rw[hsc] at wk;refine⟨_,_,wk,⟨g,off,cap,arr.set (off+xs.length) x,by simp,hbg,hr.set _ _,by simpa using Vk,hcm,by simpa using qS,fun j u hj=>?_⟩,cA w g _ _,.inl rfl⟩;by_cases lA:j<xs.length
  ·rw[List.getElem?_append_left lA] at hj;rw[List.getElem?_set_ne (by omega)];exact Am j u hj
  rw[List.getElem?_append_right (by omega)] at hj;have:j=xs.length:=by have:=(List.getElem?_eq_some_iff.1 hj).1;simp at this;omega
  subst this;simp at hj;subst hj;rw[List.getElem?_set_self (by omega)]
 have holds:∀j u,xs[j]?=some u->w.cell? ((⟨g,off,none⟩:Addr).add j)=some u:=by
  intro j u hj;have:=Am j u hj;obtain⟨aA,e⟩:=List.getElem?_eq_some_iff.1 this;have hadd:(⟨g,off,none⟩:Addr).add j=⟨g,off+j,none⟩:=by unfold Addr.add;split<;>simp_all
  rw[hadd,hr.cell _ aA];exact congrArg some e
 obtain⟨v',w',wk,aV,Cg⟩:=run_append_arg_grows (P:=P) w t ty T i z 1 8 ht hi hz hs hb vQ (by omega) ⟨g,off,none⟩ xs.length cap xs (by simp) holds a 1 c [x] (by simp) xg (by omega) (by unfold maxLen;omega) (by omega);refine⟨v',w',wk,?_,⟨Cg.os,Cg.tape,Cg.output,Cg.size,fun k hk _=>Cg.block k hk (by simp)⟩,?_⟩
 ·obtain⟨h0,⟨_,h⟩|⟨g',cap',cur,rfl,ij,oq,hn',hm',El,Aa⟩⟩:=aV
  ·omega
  refine⟨g',0,cap',cur.toList,by simp,Nat.le_trans kR ij,oq,by simpa using hn',hm',by simp[El],fun j u hj=>?_⟩;rw[<-Aa,List.getElem?_take] at hj;split at hj
  ·simpa using hj
  cases hj
 obtain⟨h0,⟨_,h⟩|⟨g',cap',cur,rfl,ij,_⟩⟩:=aV
 ·omega
 exact .inr ⟨g',rfl,ij⟩
theorem L6{o:Oper}{a:Act}{K:Act->World->Prop}{Q:Exit->Act->World->Prop}(s x:Operand)(t:TypeId)(ho:o.op= .call {callee:= .builtin .append,args:= #[s,x],argTypes:= #[t,t]})
  (base:Nat) (T:TypeId) (i:TypeInfo) (z:Value) (ht:P.underlying t=some (.slice T)) (hi:P.info? T=some i) (hz:i.zero=some z) (hs:i.size=1) (hb:i.bytes=8) (vQ:z.cells.size=1)
  (v:Value) (xs:List Value) (hv:a.eval s=v) (hq:QAt w base T v xs) (ad:Addr) (c:Nat) (u:Value) (hx:a.eval x= .slice (some ad) 1 c) (hc:w.cell? ad=some u) (h1:u.oneCell'=true) (hl:xs.length+1<=1000000) (kR:base<=w.heap.size)
  (h:∀v' w',QAt w' base T v' (xs++ [u])->w.grownBy w' v.ownBlock->(v'.ownBlock=v.ownBlock∨∃g,v'.ownBlock=some g/\w.heap.size<=g)->K (a.put o.dst v') w'):o.wp P a w K Q:=by
 obtain⟨v',w',q1,q2,q3,q4⟩:=Ji (P:=P) w base t o.type T i z ht hi hz hs hb vQ v xs hq ad c u hc h1 hl kR;unfold Oper.wp execOp;simp only[ho,resolve,invoke,builtin,Sem.run_bind,Sem.run_pure,Result.andThen_ok,List.map_toArray,List.map_cons,List.map_nil,hv,hx,q1];exact h v' w' q2 q3 q4
theorem DB{ops:Array Oper}{rest:List Oper}{o:Oper}{a:Act}{Q:Exit->Act->World->Prop}(jv:o.guard=none)(s x:Operand)(t:TypeId)(ho:o.op= .call {callee:= .builtin .append,args:= #[s,x],argTypes:= #[t,t]})
  (base:Nat) (T:TypeId) (i:TypeInfo) (z:Value) (ht:P.underlying t=some (.slice T)) (hi:P.info? T=some i) (hz:i.zero=some z) (hs:i.size=1) (hb:i.bytes=8) (vQ:z.cells.size=1)
  (v:Value) (xs:List Value) (hv:a.eval s=v) (hq:QAt w base T v xs) (ad:Addr) (c:Nat) (u:Value) (hx:a.eval x= .slice (some ad) 1 c) (hc:w.cell? ad=some u) (h1:u.oneCell'=true) (hl:xs.length+1<=1000000) (kR:base<=w.heap.size)
  (h:∀v' w',QAt w' base T v' (xs++ [u])->w.grownBy w' v.ownBlock->(v'.ownBlock=v.ownBlock∨∃g,v'.ownBlock=some g/\w.heap.size<=g)->wpList P ops Q rest (a.put o.dst v') w'):wpList P ops Q (o::rest) a w:=
 wpList_plain jv fun _ hK=>L6 w s x t ho base T i z ht hi hz hs hb vQ v xs hv hq ad c u hx hc h1 hl kR fun v' w' q1 q2 q3=>hK _ _ (h v' w' q1 q2 q3)
end
end
section
open Go.RowKit
open Classical
def sO(r:Rt)(lo hi:Int):Bool:=match r with|some (n,d)=>fB n d lo hi|none=>false
def m9(r:Rt)(c:Clk):Bool:=match r with|some (n,d)=>c.high==0||fB n d c.low c.high|none=>true
def cZ(R:List Rt)(i:Nat):Rt:=R.getD i none
def wO(R:List Rt)(l:List Clk)(ms:List Lmt):Prop:=(∀i (h:i<l.length),m9 (cZ R i) l[i]=true)/\∀j (h:j<ms.length),sO (cZ R ms[j].clock.toNat) 0 ms[j].high=true
noncomputable def aG(l:List Clk)(ms:List Lmt)(s:List Int):Bool:=decide (wO (rts l s) l ms)
def qm(R:List Rt):Prop:=∀j (h:j<R.length),∀n d,R[j]=some (n,d)->bU n d=true/\1<=n
theorem pY{l:List Clk}{s:List Int}(hc:bA l=0)(hs:aI l s):qm (rts l s):=by obtain⟨_,ok,_,fs⟩:=bm hc;have h:=xq ok fs hs l.length (Nat.le_refl _);rw[List.take_length,List.take_of_length_le (by rw[hs.1];exact Nat.le_refl _)] at h;intro j hj n d e;obtain⟨h1,h2,_⟩:=h j hj n d e;exact⟨h1,h2⟩
theorem um{w:World}{RB:Nat}{R:List Rt}(hr:Row w RB 57 (gu (R.map prR))){k:Nat}(hk:k<R.length):w.cell? ⟨RB,k*2,none⟩=some (.int .i64 (fW (cZ R k)))/\w.cell? ⟨RB,k*2+1,none⟩=some (.int .i64 (gC (cZ R k))):=by
 have hl:(R.map prR).length=R.length:=by simp
 have ot:=Bn (R.map prR) k (by rw[hl];exact hk);have e:cZ R k=R[k]:=by rw[cZ,List.getD_eq_getElem?_getD,List.getElem?_eq_getElem hk];rfl
 refine⟨?_,?_⟩
 ·rw[hr.cell (k*2) (by rw[hZ,hl];omega),ot.1];simp[prR,e]
 rw[hr.cell (k*2+1) (by rw[hZ,hl];omega),ot.2];simp[prR,e]
theorem Te(R:List Rt)(x:Lmt)(B RB:Nat)(w:World)(c:w.cell? ⟨B,0,none⟩=some (.slice (some ⟨RB,0,none⟩) R.length R.length))(hr:Row w RB 57 (gu (R.map prR)))(hx:0<=x.clock/\x.clock<R.length)(hR:qm R)(hl:R.length<=16):
  Calls Tryz.prog 184 #[.agg #[.int .i64 x.clock,.int .i64 x.low,.int .i64 x.high],.pointer (some ⟨B,0,none⟩)] w (aN w (.bool (!sO (cZ R x.clock.toNat) 0 x.high))):=by
 obtain⟨k,hk⟩:∃k:Nat,x.clock=k:=⟨_,(Int.toNat_of_nonneg hx.1).symm⟩;have gI:k<R.length:=by omega
 obtain⟨g0,g1⟩:=um hr gI;have ek:x.clock.toNat=k:=by omega
 have e:cZ R k=R[k]:=by rw[cZ,List.getD_eq_getElem?_getD,List.getElem?_eq_getElem gI];rfl
 have hg:=hR k gI;rw[<-e] at hg;rw[hk,Int.toNat_natCast];obtain⟨r,qB⟩:∃r,cZ R k=r:=⟨_,rfl⟩;rw[qB] at g0 g1 hg ⊢;have ch:=ae c;have gh:=hr.has;have k2:(k:Int)<R.length:=by omega
 clear hr qB e ek hk hR hx;cases r with
 |none=>
  simp only[fW,gC] at g0 g1;go_enter Tryz.func184,Tryz.ntmps184;go_wp2_with fail;refine ar (by kernel_rfl) (by kernel_rfl) ?_;repeat(go_big_quiet_step (fail))
  refine wpQuiet_nil ?_;rintro _ ⟨⟨O,d⟩,rfl⟩;go_wp2_with fail;go_ret;exact⟨rfl,grr⟩
 |some nd=>
  obtain⟨n,d⟩:=nd;obtain⟨hv,gc⟩:=hg n d rfl;obtain⟨v1,v2,v3,v4,v5⟩:=dX hv;have nb:(n==0)=false:=beq_eq_false_iff_ne.2 (by omega);simp only[fW,gC] at g0 g1;clear hv v5 hg;go_enter Tryz.func184,Tryz.ntmps184;go_wp2_with fail;refine ar (by kernel_rfl) (by kernel_rfl) ?_;repeat(go_big_quiet_step (first|(go_at_call 68;exact bJ (uq n d 0 x.high _ (by omega) (by omega) (by omega) (by omega)))))
  refine wpQuiet_nil ?_;rintro _ ⟨⟨O,d⟩,rfl⟩;go_wp2_with fail;go_ret;exact⟨rfl,grr⟩
def I9(R:List Rt)(m:List Lmt):Prop:=∃k,∃h:k<m.length,sO (cZ R m[k].clock.toNat) 0 m[k].high=false
theorem K4(R:List Rt)(m:List Lmt)(am:Option Addr)(cm B RB:Nat)(w:World)(c:w.cell? ⟨B,0,none⟩=some (.slice (some ⟨RB,0,none⟩) R.length R.length))(hr:Row w RB 57 (gu (R.map prR)))(hR:qm R)(hl:R.length<=16)
  (h:ag 3 lQ w am m) (hm:Fit m.length) (hx:∀j (h:j<m.length),0<=m[j].clock/\m[j].clock<R.length):
  Calls Tryz.prog 183 #[.slice am m.length cm,.func (.func 184) #[] #[.pointer (some ⟨B,0,none⟩)]] w fun e w'=>∃y:Int,e= .returned (.int .i64 y)/\(0<=y↔I9 R m)/\Gr w w':=by
 unfold Fit at hm;have H:=aa h;have HR:=aa hr;have HC:=aa c;have RG:=aa hR;have RL:=aa hl;have HX:=aa hx;clear h hr c hR hl hx;go_enter Tryz.func183,Tryz.ntmps183;go_wp2;go_loopw [8] (fun i wr=>∃k:Nat,k<=m.length/\i= .int .i64 k/\(∀j (h:j<m.length),j<k->sO (cZ R m[j].clock.toNat) 0 m[j].high=true)/\Gr w wr) (fun i _=>m.length-(intOf i).toNat);case atStart=>exact⟨0,Nat.zero_le _,rfl,fun j _ h=>absurd h (by omega),gfl _⟩
 case round=>
  obtain⟨k,hk,rfl,aH,hg⟩:=hrel;have HA:=aa aH;have HG:=aa hg;clear aH hg;obtain⟨wo,rfl⟩:∃wo:World,wo=wr:=⟨_,rfl⟩;by_cases aA:k<m.length
  ·obtain⟨b,o,rfl,⟨c0,_⟩,⟨c1,_⟩,⟨c2,_⟩⟩:=iR H.out HG.out k aA;have cr:=Te R m[k] B RB wo (aB HG.out HC.out) (HR.out.gr HG.out) (HX.out k aA) RG.out RL.out;cases hq:sO (cZ R m[k].clock.toNat) 0 m[k].high with
   |true=>
    rw[hq] at cr;have Q:=aa hq;clear hq;go_wp2_with fail;refine cr.mono ?_;rintro e w' ⟨rfl,O,d,rfl⟩;go_wp2_with fail;go_roundw;case rel=>
     refine⟨k+1,by omega,by go_num,fun j h1 hj=>?_,HG.out.xt _ _⟩;by_cases e:j=k
     ·subst e;exact Q.out
     exact HA.out j h1 (by omega)
    case measure=>simp[intOf];omega
   |false=>rw[hq] at cr;have Q:=aa hq;clear hq;go_wp2_with fail;refine cr.mono ?_;rintro e w' ⟨rfl,O,d,rfl⟩;go_wp2_with fail;go_ret;exact⟨k,rfl,⟨fun _=>⟨k,aA,Q.out⟩,fun _=>by omega⟩,HG.out.xt _ _⟩
  go_wp2;go_ret;exact⟨-1,rfl,⟨fun q=>by omega,fun⟨j,hj,q⟩=>by rw[HA.out j hj (by omega)] at q;cases q⟩,HG.out⟩
theorem Ef(R:List Rt)(m:List Lmt)(am:Option Addr)(cm B RB:Nat)(w:World)(c:w.cell? ⟨B,0,none⟩=some (.slice (some ⟨RB,0,none⟩) R.length R.length))(hr:Row w RB 57 (gu (R.map prR)))(hR:qm R)(hl:R.length<=16)
  (h:ag 3 lQ w am m) (hm:Fit m.length) (hx:∀j (h:j<m.length),0<=m[j].clock/\m[j].clock<R.length):
  Calls Tryz.prog 156 #[.slice am m.length cm,.func (.func 184) #[] #[.pointer (some ⟨B,0,none⟩)]] w (aN w (.bool (decide (I9 R m)))):=by
 have IX:=aa (K4 R m am cm B RB w c hr hR hl h hm hx);clear h hr hR hl hx c hm;go_enter Tryz.func156,Tryz.ntmps156;go_wp2_with fail;refine IX.out.mono ?_;rintro e w' ⟨y,rfl,hy,hg⟩;have HY:=aa hy;have HG:=aa hg;clear hy hg;go_wp2_with fail;go_ret;exact⟨ai (by rw[decide_eq_decide];exact HY.out),HG.out⟩
theorem yM(l:List Clk)(ms:List Lmt)(s:List Int)(al aS am:Option Addr)(cl cs cm:Nat)(w:World)(h:ag 5 cY w al l)(hs:ag 1 RI w aS s)(hm:ag 3 lQ w am ms)(hc:bA l=0)(aZ:aI l s)(kL:ms.length<=32/\∀j (h:j<ms.length),lF l ms[j])(qS:kW w):
  Calls Tryz.prog 159 #[.slice al l.length cl,.slice aS s.length cs,.slice am ms.length cm] w (aN w (.bool (aG l ms s))):=by
 obtain⟨nb,_,_,_⟩:=bm hc;have hl:=cg nb;have hRl:(rts l s).length=l.length:=kt _ _ aZ.1.symm;have RG:=aa (pY hc aZ);have HX:Hid (∀j (h:j<ms.length),0<=ms[j].clock/\ms[j].clock<(rts l s).length):=aa fun j hj=>by have:=kL.2 j hj;rw[hRl];exact⟨this.1,this.2.1⟩
 have Eg:=kL.1;have RT:=aa (zm l s al aS cl cs w h hs hc aZ qS);have NB:=aa nb;have H:=aa h;have HM:=aa hm;obtain⟨R,eR⟩:∃R,rts l s=R:=⟨_,rfl⟩;have ER:=aa eR;have RT2:Hid (Calls Tryz.prog 73 #[.slice al l.length cl,.slice aS s.length cs] w (fun e w'=>∃RB,e= .returned (.tuple #[.slice (some ⟨RB,0,none⟩) l.length l.length,.int .i64 0])/\Row w' RB 57 (gu (R.map prR))/\w.heap.size<=RB/\Gr w w')):=aa (by rw[<-eR];exact RT.out);rw[eR] at RG HX hRl;have cal:aG l ms s=decide (wO R l ms):=by rw[<-eR];rfl
 rw[cal];clear cal RT h hs hm hc aZ kL qS nb eR;go_enter Tryz.func159,Tryz.ntmps159;go_wp2_with fail;refine RT2.out.mono ?_;rintro e w1 ⟨RB,rfl,hr,hb,hg⟩;have HR:=aa hr;have G1:=aa hg;clear hr hb hg RT2;go_wp2_with fail;obtain⟨W2,hW2⟩:∃W2:World,Hid (W2=w1.alloc (.cells #[.slice (some ⟨RB,0,none⟩) l.length l.length] 63)):=⟨_,aa rfl⟩;rw[<-hW2.out];obtain⟨BR,hBR⟩:∃BR:Nat,Hid (w1.heap.size=BR):=⟨_,aa rfl⟩;rw[hBR.out];have C2:Hid (Row W2 BR 63 [.slice (some ⟨RB,0,none⟩) l.length l.length]):=aa (by rw[hW2.out,<-hBR.out];exact Row.new w1 _ _);have R2:Hid (Row W2 RB 57 (gu (R.map prR))):=aa (by rw[hW2.out];exact HR.out.alloc _);have G2:Hid (Gr w W2):=aa (by rw[hW2.out];exact G1.out.alloc _);clear hW2 hBR HR G1;go_loopw [19] (fun i wr=>∃k:Nat,k<=l.length/\i= .int .i64 k/\(∀j (h:j<l.length),j<k->m9 (cZ R j) l[j]=true)/\Gr W2 wr) (fun i _=>l.length-(intOf i).toNat);case atStart=>exact⟨0,Nat.zero_le _,rfl,fun j _ h=>absurd h (by omega),gfl _⟩
 case round=>
  obtain⟨k,hk,rfl,aH,hg⟩:=hrel;have HA:=aa aH;have HG:=aa hg;clear aH hg;obtain⟨wo,rfl⟩:∃wo:World,wo=wr:=⟨_,rfl⟩;have c0:=(C2.out.gr HG.out).cell 0 (by simp);simp only[List.getElem_cons_zero] at c0;have ch:=ae c0;by_cases aA:k<l.length
  ·obtain⟨b,o,rfl,⟨d0,_⟩,⟨ap,cp,d1,_⟩,⟨ac,cc,d2,_⟩,⟨d3,_⟩,⟨d4,_⟩⟩:=bj H.out (G2.out.trans HG.out) k aA;have gI:k<R.length:=by omega
   obtain⟨g0,g1⟩:=um (R2.out.gr HG.out) gI;have e:cZ R k=R[k]:=by rw[cZ,List.getD_eq_getElem?_getD,List.getElem?_eq_getElem gI];rfl
   have jv:=RG.out k gI;rw[<-e] at jv;obtain⟨r,qB⟩:∃r,cZ R k=r:=⟨_,rfl⟩;rw[qB] at g0 g1 jv;have gh:=(R2.out.gr HG.out).has;have k2:(k:Int)<l.length:=by omega
   have RR:=aa qB;have next:m9 r l[k]=true->∀j (h:j<l.length),j<k+1->m9 (cZ R j) l[j]=true:=fun q j h1 hj=>by
    by_cases e:j=k
    ·subst e;rw[RR.out];exact q
    exact HA.out j h1 (by omega)
   have NX:=aa next
   clear qB e next
   cases r with
   |none=>
    simp only[fW,gC] at g0 g1;clear jv;go_wp2_with fail;refine ar (by kernel_rfl) (by kernel_rfl) ?_;repeat(go_big_quiet_step (fail))
    refine wpQuiet_nil ?_;rintro _ ⟨⟨O,d⟩,rfl⟩;go_wp2_with fail;go_roundw;case rel=>exact⟨k+1,by omega,by go_num,NX.out rfl,(HG.out.alloc _).xt _ _⟩
    case measure=>simp[intOf];omega
   |some nd=>
    obtain⟨n,d⟩:=nd;obtain⟨hv,gc⟩:=jv n d rfl;obtain⟨v1,v2,v3,v4,v5⟩:=dX hv;have nb:(n==0)=false:=beq_eq_false_iff_ne.2 (by omega);have nb2:(n !=0)=true:=(by simp;omega);simp only[fW,gC] at g0 g1;clear hv v5 jv;by_cases h0:l[k].high=0
    ·have hb:(l[k].high !=0)=false:=(by simp[h0]);have NX2:=NX.out (by simp[m9,h0]);have NX3:=aa NX2;clear h0 NX2 NX;go_wp2_with fail;refine ar (by kernel_rfl) (by kernel_rfl) ?_;repeat(go_big_quiet_step (fail))
     refine wpQuiet_nil ?_;rintro _ ⟨⟨O,d⟩,rfl⟩;go_wp2_with fail;go_roundw;case rel=>exact⟨k+1,by omega,by go_num,NX3.out,(HG.out.alloc _).xt _ _⟩
     case measure=>simp[intOf];omega
    have hb:(l[k].high !=0)=true:=(by simp[h0]);have px:(l[k].high==0)=false:=(by simp[h0]);cases hq:fB n d l[k].low l[k].high with
    |true=>
     have NX2:=NX.out (by simp[m9,hq]);have NX3:=aa NX2;have wq:=uq n d l[k].low l[k].high;rw[hq] at wq;clear h0 NX2 NX hq px;go_wp2_with fail;refine ar (by kernel_rfl) (by kernel_rfl) ?_;repeat(go_big_quiet_step (first|(go_at_call 68;exact bJ (wq _ (by omega) (by omega) (by omega) (by omega)))))
     refine wpQuiet_nil ?_;rintro _ ⟨⟨O,d⟩,rfl⟩;go_wp2_with fail;go_roundw;case rel=>exact⟨k+1,by omega,by go_num,NX3.out,(HG.out.alloc _).xt _ _⟩
     case measure=>simp[intOf];omega
    |false=>
     have bad:Hid (¬wO R l ms):=aa fun q=>by have:=q.1 k aA;rw[RR.out] at this;simp[m9,px,hq] at this
     have wq:=uq n d l[k].low l[k].high;rw[hq] at wq;clear h0 NX hq px;go_wp2_with fail;refine ar (by kernel_rfl) (by kernel_rfl) ?_;repeat(go_big_quiet_step (first|(go_at_call 68;exact bJ (wq _ (by omega) (by omega) (by omega) (by omega)))))
     refine wpQuiet_nil ?_;rintro _ ⟨⟨O,d⟩,rfl⟩;go_wp2_with fail;go_ret;exact⟨ai (dfx bad.out).symm,((G2.out.trans HG.out).alloc _).xt _ _⟩
  have HA2:Hid (∀j (h:j<l.length),m9 (cZ R j) l[j]=true):=aa fun j h=>HA.out j h (by omega);clear HA;rw[<-hRl] at c0;go_wp2_with fail;refine(Ef R ms am cm BR RB wo c0 (R2.out.gr HG.out) RG.out (by omega) (iR HM.out (G2.out.trans HG.out)) (by unfold Fit;omega) HX.out).mono ?_;rintro e w' ⟨rfl,O,d,rfl⟩;by_cases hq:I9 R ms
  ·rw[dtx hq];have bad:Hid (¬wO R l ms):=aa fun q=>by
    obtain⟨k,hk,e⟩:=hq;rw[q.2 k hk] at e;cases e
   clear hq;go_wp2_with fail;go_ret;exact⟨ai (dfx bad.out).symm,(G2.out.trans HG.out).xt _ _⟩
  rw[dfx hq];have good:Hid (wO R l ms):=aa ⟨HA2.out,fun j hj=>by
   cases e:sO (cZ R ms[j].clock.toNat) 0 ms[j].high with
   |true=>rfl
   |false=>exact absurd ⟨j,hj,e⟩ hq⟩
  clear hq;go_wp2_with fail;go_ret;exact⟨ai (dtx good.out).symm,(G2.out.trans HG.out).xt _ _⟩
end
section
open Classical
end
section
open Go.RowKit
open Classical
theorem nc{l:List Clk}{s:List Int}(hc:bA l=0)(hs:aI l s){j:Nat}(hj:j<=l.length):0<=jo (kOf l) (sOf s) j/\jo (kOf l) (sOf s) j<4096:=by obtain⟨nb,ok,pr,fs⟩:=bm hc;have h1:=Fk hs j hj;have h2:=nB (qe ok) j;omega
theorem Hg{l:List Clk}{s:List Int}(hc:bA l=0)(hs:aI l s):0<=num l s/\num l s<4096:=nc hc hs (Nat.le_refl _)
theorem uj(l:List Clk)(s:List Int)(al aS am:Option Addr)(cl cs ml cm:Nat)(kv:Value)(w:World)(h:ag 5 cY w al l)(hs:ag 1 RI w aS s)(hc:bA l=0)(aZ:aI l s):
  Calls Tryz.prog 117 #[.agg #[.slice al l.length cl,.slice am ml cm,kv],.slice aS s.length cs] w (aN w (.int .i64 (num l s))):=by
 obtain⟨nb,_,_,_⟩:=bm hc;have hl:=cg nb;have eX:s.length<=16:=by have:=aZ.1;omega
 have NB:=aa nb;have H:=aa (bj h ((gfl w).alloc (.cells #[.slice al l.length cl,.slice am ml cm,kv] 158)));have HS:=aa (hs.giI ((gfl w).alloc (.cells #[.slice al l.length cl,.slice am ml cm,kv] 158)));have HC:=aa hc;have HT:=aa aZ;clear h hs hc aZ nb;go_enter Tryz.func117,Tryz.ntmps117;go_wp2;go_loop [5,10] (fun n i=>∃k:Nat,k<=s.length/\i= .int .i64 k/\n= .int .i64 (jo (kOf l) (sOf s) k)) (fun _ i=>s.length-(intOf i).toNat);case atStart=>exact⟨0,Nat.zero_le _,rfl,rfl⟩
 case round=>
  obtain⟨k,hk,rfl,rfl⟩:=hrel;by_cases aA:k<s.length
  ·have fj:k<l.length:=by have:=HT.out.1;omega
   have hx:=nc HC.out HT.out (j:=k) (by omega);have jm:=nc HC.out HT.out (j:=k+1) (by omega);simp only[jo,lZ aA,lu fj] at jm;obtain⟨x,ex⟩:∃x,jo (kOf l) (sOf s) k=x:=⟨_,rfl⟩;have kX:Hid (jo (kOf l) (sOf s) (k+1)=x*(l[k].choices.length:Int)+s[k]):=aa (by simp only[jo,lZ aA,lu fj,ex]);rw[ex] at hx jm ⊢;have aZ:=HT.out.2 k fj aA;obtain⟨fp,fc⟩:=fR NB.out fj;have hm:0<=x*(l[k].choices.length:Int):=Int.mul_nonneg hx.1 (by omega);have me:x*(l[k].choices.length:Int)<=4096:=by omega
   obtain⟨bs,os,rfl,⟨q1,_⟩⟩:=HS.out.one k aA;obtain⟨b,o,rfl,⟨c0,_⟩,⟨ap,cp,c1,c1l,jQ,sp⟩,⟨ac,cc,c2,c2l,mB,sc⟩,⟨c4,_⟩,c5,_⟩:=H.out k fj;unfold Fit at mB;have k2:(k:Int)<l.length:=by omega
   clear sp sc jQ c0 c1 c4 c5 ex;go_wp2_with fail;go_round;case rel=>exact⟨k+1,by omega,by go_num,by rw[kX.out]⟩
   case measure=>simp[intOf];omega
  obtain rfl:k=s.length:=by omega
  go_wp2;go_ret;exact⟨by rw[num,HT.out.1];rfl,(gfl _).alloc _⟩
def yB(s:List Int)(j:Nat):List Int:=List.replicate j 0++s.drop j
theorem Uv(s:List Int)(j:Nat)(h:j<=s.length):(yB s j).length=s.length:=by simp[yB];omega
theorem Rx(s:List Int)(j:Nat)(h:j<s.length):(yB s (j+1)).set j s[j]=yB s j:=by unfold yB;rw[List.replicate_succ',List.append_assoc,List.set_append_right _ _ (by simp),List.drop_eq_getElem_cons h];simp
theorem AY(l:List Clk)(s:List Int)(al am:Option Addr)(cl ml cm:Nat)(kv:Value)(w:World)(h:ag 5 cY w al l)(hc:bA l=0)(aZ:aI l s):
  Calls Tryz.prog 163 #[.agg #[.slice al l.length cl,.slice am ml cm,kv],.int .i64 (num l s)] w
   fun e w'=>∃RB,e= .returned (.slice (some ⟨RB,0,none⟩) l.length l.length)/\Row w' RB 3 (an s)/\w.heap.size<=RB/\Gr w w':=by
 obtain⟨nb,_,_,_⟩:=bm hc;have hl:=cg nb;have NB:=aa nb;have H:=aa h;have HC:=aa hc;have HT:=aa aZ;have eX:s.length=l.length:=aZ.1;clear h hc aZ nb;obtain⟨j0,hj,kN,ka,lg⟩:=info_parts eS;have jV:∀W:World,(Instr.makeSlice 22 (.int .i64 (l.length:Int)) (.int .i64 (l.length:Int))).run Tryz.prog W= .ok (.slice (some ⟨W.heap.size,0,none⟩) l.length l.length) (W.alloc (.cells (madeCells #[.int .i64 0] l.length) 3)):=fun W=>by have hr:=run_make (P:=Tryz.prog) W 22 3 j0 (.int .i64 0) Tryz.underlying22 hj kN .i64 .i64 l.length l.length (by omega) (Int.le_refl _) (by rw[lg];omega) (by omega);simp only[Int.toNat_natCast,ka,Nat.mul_one] at hr;exact hr
 obtain⟨n,hn⟩:∃n,num l s=n:=⟨_,rfl⟩;rw[hn];have HN:=aa hn;clear hn;go_enter Tryz.func163,Tryz.ntmps163;go_wp2_with fail;obtain⟨W2,hW2⟩:∃W2:World,Hid (W2=(w.alloc (.cells #[.slice al l.length cl,.slice am ml cm,kv] 158)).alloc (.cells (madeCells #[.int .i64 0] l.length) 3)):=⟨_,aa rfl⟩;rw[<-hW2.out];obtain⟨RB,hRB⟩:∃RB:Nat,Hid (w.heap.size+1=RB):=⟨_,aa rfl⟩;rw[hRB.out];obtain⟨XB,hXB⟩:∃XB:Nat,Hid (w.heap.size=XB):=⟨_,aa rfl⟩;rw[hXB.out];have R2:Hid (Row W2 RB 3 (an (yB s l.length))):=aa (by rw[hW2.out,<-hRB.out];have:=Row.new (w.alloc (.cells #[.slice al l.length cl,.slice am ml cm,kv] 158)) (madeCells #[.int .i64 0] l.length) 3;rw[tw] at this;have e:s.drop l.length= []:=List.drop_of_length_le (by omega);simpa [yB,an,e] using this)
 have X2:Hid (Row W2 XB 158 [.slice al l.length cl,.slice am ml cm,kv]):=aa (by rw[hW2.out,<-hXB.out];exact(Row.new w #[.slice al l.length cl,.slice am ml cm,kv] 158).alloc _)
 have HG2:Hid (Gr w W2):=aa (by rw[hW2.out];exact((gfl _).alloc _).alloc _);have rb:Hid (w.heap.size<=RB):=aa (by have:=hRB.out;omega);have xr:Hid (XB≠RB):=aa (by have:=hRB.out;have:=hXB.out;omega);have xb:Hid (w.heap.size<=XB):=aa (by have:=hXB.out;omega);clear hW2 jV hRB hXB;go_loopw [1,6] (fun n i wr=>∃k:Nat,k<=l.length/\i= .int .i64 ((k:Int)-1)/\n= .int .i64 (jo (kOf l) (sOf s) k)/\Row wr RB 3 (an (yB s k))/\Row wr XB 158 [.slice al l.length cl,.slice am ml cm,kv]/\Gr w wr) (fun _ i _=>(intOf i+1).toNat);case atStart=>exact⟨l.length,Nat.le_refl _,by go_num,by rw[<-HN.out];rfl,R2.out,X2.out,HG2.out⟩
 case round=>
  clear R2 HG2 X2;obtain⟨k',hk,rfl,rfl,hr,hx,hg⟩:=hrel;have HR:=aa hr;have HX:=aa hx;have HG:=aa hg;clear hr hx hg;cases k' with
  |zero=>go_wp2_with fail;go_ret;exact⟨RB,rfl,by have:=HR.out;simpa [yB] using this,rb.out,HG.out⟩
  |succ k=>
   have aA:k<s.length:=by omega
   have fj:k<l.length:=by omega
   have hdm:=xH HT.out fj;rw[lZ aA,lu fj] at hdm;have jm:=nc HC.out HT.out (j:=k+1) (by omega);have lR:=nc HC.out HT.out (j:=k) (by omega);obtain⟨x,ex⟩:∃x,jo (kOf l) (sOf s) (k+1)=x:=⟨_,rfl⟩;obtain⟨y,ey⟩:∃y,jo (kOf l) (sOf s) k=y:=⟨_,rfl⟩;rw[ex] at hdm jm ⊢;rw[ey] at hdm lR;have aZ:=HT.out.2 k fj aA;obtain⟨fp,fc⟩:=fR NB.out fj;have kp:0<(l[k].choices.length:Int):=by omega
   have hq:x.tdiv (l[k].choices.length:Int)=y:=by rw[Int.tdiv_eq_ediv_of_nonneg jm.1,hdm.1]
   have hm:x.tmod (l[k].choices.length:Int)=s[k]:=by rw[Int.tmod_eq_emod_of_nonneg jm.1,hdm.2]
   obtain⟨b,o,rfl,⟨c0,_⟩,⟨ap,cp,c1,c1l,jQ,sp⟩,⟨ac,cc,c2,c2l,mB,sc⟩,⟨c4,_⟩,c5,_⟩:=bj H.out HG.out k fj;unfold Fit at mB;have k2:(k:Int)<l.length:=by omega
   have x0:=HX.out.cell 0 (by simp);simp only[List.getElem_cons_zero] at x0;have xh:=HX.out.has;have e0:=HR.out.cell k (by rw[dp,Uv _ _ (by omega)];omega);have f0:=HR.out.free k;have rh:=HR.out.has;have ST:=aa (Rx s k aA);have EY:=aa ey;clear sp sc jQ c0 c1 c4 c5 ex ey hdm;rw[show((k+1:Nat):Int)-1=(k:Int) by omega];go_wp2_with fail;go_region;go_wp2_with fail;go_roundw;case rel=>exact⟨k,by omega,by go_num,by rw[EY.out],by rw[<-ST.out];exact(HR.out.iset k _).drew,(HX.out.oth (Ne.symm xr.out)).drew,(HG.out.setc rb.out).drew⟩
   case measure=>simp[intOf]
end
end Go.Proofs.YtlmhkjdkcoiioaaGreatDoor
