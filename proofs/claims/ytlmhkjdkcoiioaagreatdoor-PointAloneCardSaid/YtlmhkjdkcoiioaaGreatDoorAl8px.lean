/- Lemmas and contracts for the proof of PointAlone (several texts in one, printed by wip/tools/pack.py): ZPlB QbA QdA ZRfe RqJ RqP RqK. -/
import Derived.Test.YtlmhkjdkcoiioaaGreatDoorAl8pv
import Derived.Test.YtlmhkjdkcoiioaaGreatDoorAl8pw
import Derived.Test.YtlmhkjdkcoiioaaGreatDoorAl8pa
import Derived.Test.YtlmhkjdkcoiioaaGreatDoorAl8pb
import Derived.Test.YtlmhkjdkcoiioaaGreatDoorAl8pl
import Derived.Test.YtlmhkjdkcoiioaaGreatDoorAl8pm
import Derived.Test.YtlmhkjdkcoiioaaGreatDoorAl8pi
set_option maxRecDepth 100000
set_option maxHeartbeats 16000000
set_option linter.unusedVariables false
set_option linter.unusedSimpArgs false
namespace Go.Proofs.YtlmhkjdkcoiioaaGreatDoor
section
open Classical
def Tr(P:Nat->Rls->Wri->Prop)(a:Rls)(ps:List Wri):Prop:=∀i (h:i<ps.length),P i (runW a (ps.take i)) ps[i]
structure WInv(P:Nat->Rls->Wri->Prop)(a:Rls)(n:Nat)(s:Rls×List Wri):Prop where
 run:s.1=runW a s.2
 tr:Tr P a s.2
 n1:s.1.on.length=n
 n2:s.1.level.length=n
section
variable {l:List Sup} {d:List Drw} {a b:Rls}
def md(lo mid hi:Rls)(k i:Nat):Rls:=if i<k then lo else if i=k then mid else hi
theorem VZ(x:Rls)(i:Nat):As x x i:=⟨rfl,fun _=>rfl⟩
theorem Et(ha:bi l a d)(hb:bi l b d):bi l (aT a b) d:=
 MN ha hb (Kr ha.2.1 hb.2.1) (fun _=>aT a b) (fun _ _=> .inr (.inl rfl)) (fun i _=>VZ _ i) (fun i _ _=> .inl rfl)
end
end
section
open Go.RowKit
open Classical
theorem Rr(d e:List Drw)(i:Nat):∀m,m<=d.length->jL (d++e) i m=jL d i m:=by
 intro m;induction m with
 |zero=>intro _;rfl
 |succ m ih=>intro hm;simp only[jL];rw[ih (by omega),dif_pos (show m<(d++e).length by simp;omega),dif_pos (show m<d.length by omega),List.getElem_append_left (by omega)]
theorem Qb(d e:List Drw)(i:Nat)(he:∀x∈e,x.load=0):∀m,m<=e.length->jL (d++e) i (d.length+m)=own d i:=by
 intro m;induction m with
 |zero=>intro _;exact Rr d e i _ (Nat.le_refl _)
 |succ m ih=>
  intro hm;rw[<-Nat.add_assoc];simp only[jL];have e1:(d++e)[d.length+m]'(by simp;omega)=e[m]:=by rw[List.getElem_append_right (by omega)];simp
  rw[ih (by omega),dif_pos (show d.length+m<(d++e).length by simp;omega),e1,he _ (List.getElem_mem _)];simp
theorem Wl{d e:List Drw}(he:∀x∈e,x.load=0)(i:Nat):own (d++e) i=own d i:=by unfold own;rw[List.length_append];exact Qb d e i he _ (Nat.le_refl _)
theorem VY{l:List Sup}{d e:List Drw}(he:∀x∈e,x.load=0):∀f i,ldF l (d++e) f i=ldF l d f i:=by
 intro f;induction f with
 |zero=>intro i;rfl
 |succ f ih=>intro i;simp only[ldF,ih,Wl he]
theorem Sp{l:List Sup}{d e:List Drw}(he:∀x∈e,x.load=0)(i:Nat):ld l (d++e) i=ld l d i:=VY he _ i
theorem Sx{l:List Sup}{d e:List Drw}:∀f i,Fc l d f i->Fc l (d++e) f i:=by
 intro f;induction f with
 |zero=>intro i h;exact h
 |succ f ih=>
  rintro i ⟨h,q⟩;refine⟨h,?_⟩;rcases q with q|⟨x,hx,hs⟩|⟨c,h1,h2,h3,h4⟩
  ·exact .inl q
  ·exact .inr (.inl ⟨x,List.mem_append_left _ hx,hs⟩)
  exact .inr (.inr ⟨c,h1,h2,h3,ih c h4⟩)
theorem TY{l:List Sup}{d e:List Drw}{i:Nat}(h:fF l d i):fF l (d++e) i:=by obtain⟨f,hf⟩:=h;exact⟨f,Sx f i hf⟩
theorem RJ{l:List Sup}{d e:List Drw}{r:Rls}(hm:bi l r d)(he:∀x∈e,aQ r x.supply.toNat=true):∀f i,Fc l (d++e) f i->aQ r i=true:=by
 intro f;induction f with
 |zero=>intro i h;exact h.elim
 |succ f ih=>
  rintro i ⟨hi,q⟩;rcases q with q|⟨x,hx,hs⟩|⟨c,h1,h2,h3,h4⟩
  ·exact mM hm hi ⟨1,hi,.inl q⟩
  ·rcases List.mem_append.1 hx with hx|hx
   ·exact mM hm hi ⟨1,hi,.inr (.inl ⟨x,hx,hs⟩)⟩
   have:=he x hx;rw[hs] at this;simpa using this
  have e:=((ye hm h2 (ih c h4)).2 (by omega)).1;rw[h3] at e;simpa using e
theorem L7{l:List Sup}{d e:List Drw}(hd:b7 l (d++e)):b7 l d:=
 ⟨hd.1,by have:=hd.2.1;simp at this;omega,fun k hk=>by have:=hd.2.2 k (by simp;omega);rwa [List.getElem_append_left hk] at this⟩
theorem Ry{l:List Sup}{d e:List Drw}{r:Rls}(hl:∀x∈e,x.load=0)(hd:b7 l (d++e)):bi l r (d++e)↔bi l r d/\∀x∈e,aQ r x.supply.toNat=true/\mA l r x:=by
 constructor
 ·intro h;refine⟨⟨L7 hd,h.2.1,fun i hi=>⟨fun hu=>(h.2.2.1 i hi).1 (TY hu),fun ho hi=>?_⟩,fun k hk=>?_⟩,fun x hx=>?_⟩
  ·have:=(h.2.2.1 i hi).2 ho hi;rwa [Sp hl] at this
  ·have:=h.2.2.2 k (by simp;omega);rwa [List.getElem_append_left hk] at this
  obtain⟨k,hk,rfl⟩:=List.getElem_of_mem hx;have sy:d.length+k<(d++e).length:=by simp;omega
  have e1:(d++e)[d.length+k]=e[k]:=by rw[List.getElem_append_right (by omega)];simp
  have og:=hd.2.2 _ sy;rw[e1] at og;unfold fq at og;have eX:e[k].supply.toNat<l.length:=by omega
  refine⟨(h.2.2.1 _ eX).1 ⟨1,eX,.inr (.inl ⟨e[k],List.mem_append_right _ (List.getElem_mem hk),by omega⟩)⟩,?_⟩;have:=h.2.2.2 _ sy;rwa [e1] at this
 rintro⟨h,he⟩;refine⟨hd,h.2.1,fun i hi=>⟨fun hu=>?_,fun ho hi=>?_⟩,fun k hk=>?_⟩
 ·obtain⟨f,hf⟩:=hu;exact RJ h (fun x hx=>(he x hx).1) f i hf
 ·rw[Sp hl];exact(h.2.2.1 i hi).2 ho hi
 rcases Nat.lt_or_ge k d.length with q|q
 ·rw[List.getElem_append_left q];exact h.2.2.2 k q
 rw[List.getElem_append_right q];exact(he _ (List.getElem_mem _)).2
theorem VW(x:Scl):∀(L:List (List Rt)) (m:Int),m<=L.foldl (fun m R=>max m (cn R x).1) m/\∀R∈L,(cn R x).1<=L.foldl (fun m R=>max m (cn R x).1) m:=by
 intro L;induction L with
 |nil=>intro m;exact⟨Int.le_refl _,by simp⟩
 |cons R L ih=>
  intro m;obtain⟨h1,h2⟩:=ih (max m (cn R x).1);simp only[List.foldl_cons];refine⟨by omega,fun S hS=>?_⟩;rcases List.mem_cons.1 hS with rfl|hS
  ·omega
  exact h2 S hS
theorem Vz(x:Scl)(b:Int):∀(L:List (List Rt)) (m:Int),m<=b->(∀R∈L,(cn R x).1<=b)->L.foldl (fun m R=>max m (cn R x).1) m<=b:=by
 intro L;induction L with
 |nil=>intro m h _;exact h
 |cons R L ih=>intro m h h2;have:=h2 R (by simp);exact ih (max m (cn R x).1) (by omega) (fun S hS=>h2 S (by simp[hS]))
theorem JD{Rs:List (List Rt)}{R:List Rt}(hR:R∈Rs)(x:Scl):(cn R x).1<=fO Rs x:=(VW x Rs 0).2 R hR
theorem Do{Rs:List (List Rt)}{x:Scl}{b:Int}(h0:0<=b)(h:∀R∈Rs,(cn R x).1<=b):fO Rs x<=b:=Vz x b Rs 0 h0 h
theorem En{l:List Sup}{r:Rls}(hr:bL l r){i:Nat}(hi:i<l.length):1<=vlt l r i/\vlt l r i<=5000:=by obtain⟨h1,n,hn,gc,hv⟩:=tJ hr i hi;rw[hv];obtain⟨_,q⟩:=(cW hr.1).2 i hi;obtain⟨_,a,b,_⟩:=q.2 n gc;exact⟨a,b⟩
theorem Dm{Rs:List (List Rt)}{x:Scl}{y:Drw}(h:y∈jk Rs x):0<fO Rs x/\y=⟨x.supply,fO Rs x,5000,0⟩:=by
 unfold jk at h;split at h
 ·rename_i q;exact⟨q,by simpa using h⟩
 simp at h
theorem Wt{Rs:List (List Rt)}{x:Scl}(h:0<fO Rs x):(⟨x.supply,fO Rs x,5000,0⟩:Drw)∈jk Rs x:=by unfold jk;rw[if_pos h];simp
theorem Ns{p:List Sup}{c:List Scl}{d:List Drw}{Rs:List (List Rt)}{n:Nat}(hd:b7 p d)(hc:∀x∈c,kU n p.length x)(hl:(iG Rs d c).length<=32):b7 p (iG Rs d c):=by
 refine⟨hd.1,hl,fun k hk=>?_⟩;have hm:(iG Rs d c)[k]∈iG Rs d c:=List.getElem_mem hk;generalize (iG Rs d c)[k]=y at hm;unfold iG at hm;rcases List.mem_append.1 hm with hm|hm
 ·obtain⟨j,hj,rfl⟩:=List.getElem_of_mem hm;exact hd.2.2 j hj
 obtain⟨x,hx,hy⟩:=List.mem_flatMap.1 hm;obtain⟨h0,rfl⟩:=Dm hy;obtain⟨_,_,s0,s1,_⟩:=hc x hx;have:=oJ Rs x;unfold fq;simp only;omega
theorem Rn{p:List Sup}{c:List Scl}{d:List Drw}{r:Rls}{Rs:List (List Rt)}{n:Nat}(hd:b7 p d)(hc:∀x∈c,kU n p.length x)(hl:(iG Rs d c).length<=32)(hn:¬IY Rs c):
  bi p r (iG Rs d c)↔bi p r d/\∀x∈c,∀R∈Rs,mr p R r x:=by
 have hD:=Ns hd hc hl;have hz:∀y∈c.flatMap (jk Rs),y.load=0:=fun y hy=>by obtain⟨x,hx,hy⟩:=List.mem_flatMap.1 hy;obtain⟨_,rfl⟩:=Dm hy;rfl
 have e:iG Rs d c=d++c.flatMap (jk Rs):=rfl;rw[e] at hD ⊢;rw[Ry hz hD];constructor
 ·rintro⟨h1,h2⟩;refine⟨h1,fun x hx R hR=>⟨Classical.byContradiction fun q=>hn ⟨x,hx,R,hR,by simpa using q⟩,fun h0=>?_⟩⟩;have hm:=JD hR x;have ly:=h2 _ (List.mem_flatMap.2 ⟨x,hx,Wt (by omega)⟩);have xY:=ly.2.1;simp only at ly xY;exact⟨ly.1,by omega⟩
 rintro⟨h1,h2⟩;refine⟨h1,fun y hy=>?_⟩;obtain⟨x,hx,hy⟩:=List.mem_flatMap.1 hy;obtain⟨h0,rfl⟩:=Dm hy;obtain⟨_,_,s0,s1,_⟩:=hc x hx;have eX:x.supply.toNat<p.length:=by omega
 have hv:=En h1.2.1 eX;obtain⟨R,hR,h3⟩:∃R∈Rs,0<(cn R x).1:=Classical.byContradiction fun q=>by
  have:=Do (x:=x) (Rs:=Rs) (b:=0) (by omega) (fun R hR=>by
   rcases Int.lt_or_le 0 (cn R x).1 with q2|q2
   ·exact absurd ⟨R,hR,q2⟩ q
   omega)
  omega
 refine⟨((h2 x hx R hR).2 h3).1,?_,hv.2⟩;refine Do (by simp only;omega) (fun R' hR'=>?_);simp only;rcases Int.lt_or_le 0 (cn R' x).1 with q2|q2
 ·exact((h2 x hx R' hR').2 q2).2
 omega
theorem Iw{p:List Sup}{r r':Rls}{R:List Rt}{x:Scl}(hr:bL p r)(kF:bL p r')(hx:x.supply.toNat<p.length)(h:aQ r x.supply.toNat=true->aQ r' x.supply.toNat=true/\aF r x.supply.toNat<=aF r' x.supply.toNat)(hm:mr p R r x):mr p R r' x:=by refine⟨hm.1,fun h0=>?_⟩;obtain⟨h1,h2⟩:=hm.2 h0;obtain⟨h3,h4⟩:=h h1;have:=Dz hr kF hx h4;exact⟨h3,by omega⟩
theorem Mr{Rs Rs':List (List Rt)}{x:Scl}(h:fO Rs x<=fO Rs' x):(jk Rs x).length<=(jk Rs' x).length:=by
 unfold jk;split
 ·rw[if_pos (by omega)];simp
 simp
theorem Cq{Rs Rs':List (List Rt)}{d:List Drw}(c:List Scl)(h:∀R∈Rs,R∈Rs'):(iG Rs d c).length<=(iG Rs' d c).length:=by
 unfold iG;simp only[List.length_append];have:(c.flatMap (jk Rs)).length<=(c.flatMap (jk Rs')).length:=by
  induction c with
  |nil=>simp
  |cons x c ih=>simp only[List.flatMap_cons,List.length_append];have:=Mr (x:=x) (Do (oJ Rs' x).1 (fun R hR=>JD (h R hR) x));omega
 omega
theorem UR{l:List Sup}{d:List Drw}(hok:gz l):∀{m:Nat} {s:List Int×List Int},ix l d m=some s->mY l s.1:=by
 intro m;induction m with
 |zero=>intro s h;simp only[ix,Option.some.injEq] at h;subst h;refine⟨by simp,fun k hk _=>?_⟩;obtain⟨_,q⟩:=hok k hk;have:=q.1.2.2.1;simp;omega
 |succ m ih=>
  intro s h;simp only[ix,Option.bind_eq_some_iff] at h;obtain⟨s0,h0,h1⟩:=h;have hs:=ih h0;unfold iq at h1;split at h1
  ·rename_i hi;split at h1
   ·split at h1
    ·cases h1
    rename_i hn;cases h1
    have:=za l[l.length-1-m].levels (s0.2.getD (l.length-1-m) 0);exact hs.set _ hi _ (by omega) (by omega)
   cases h1;exact hs
  cases h1;exact hs
theorem Wk{l:List Sup}{d:List Drw}(h:lc l d=0):beg l d=0:=by
 unfold lc at h;split at h
 ·assumption
 exact h
theorem Mf{l:List Sup}{d:List Drw}(h:lc l d=0):bi l (lO l d) d:=by
 have hb:=Wk h;have hd:=yK hb;unfold lc at h;rw[if_pos hb] at h;unfold lO;rw[if_pos hb];cases hr:lM l d with
 |none=>rw[hr] at h;simp at h
 |some r=>
  simp only[Option.getD_some];unfold lM at hr;split at hr
  ·rename_i s hs;split at hr
   ·rename_i hm;cases hr
    exact⟨hd,(UR (cW hd.1).2 hs).rls hd.1,hm⟩
   cases hr
  cases hr
theorem TS(xs:List Int)(v:Int):∀(k n j:Nat),n<=j->j<n+k->v<=xs.getD j 0->∃m:Nat,lvF xs v n k=(m:Int)/\m<=j/\v<=xs.getD m 0:=by
 intro k;induction k with
 |zero=>intro n j h1 h2;omega
 |succ k ih=>
  intro n j h1 h2 h3;simp only[lvF];by_cases h:v<=xs.getD n 0
  ·rw[if_pos h];exact⟨n,rfl,h1,h⟩
  rw[if_neg h];have:n≠j:=by rintro rfl;exact h h3
  exact ih (n+1) j (by omega) (by omega) h3
theorem Wz(d:List Drw)(i:Nat):∀(m:Int),m<=d.foldl (fun m x=>if x.supply=(i:Int) then(if m<x.low then x.low else m) else m) m/\∀x∈d,x.supply=(i:Int)->x.low<=d.foldl (fun m x=>if x.supply=(i:Int) then(if m<x.low then x.low else m) else m) m:=by
 induction d with
 |nil=>intro m;exact⟨Int.le_refl _,by simp⟩
 |cons y d ih=>
  intro m;simp only[List.foldl_cons];obtain⟨h1,h2⟩:=ih (if y.supply=(i:Int) then(if m<y.low then y.low else m) else m);have h3:m<=(if y.supply=(i:Int) then(if m<y.low then y.low else m) else m):=by split<;>(try split)<;>omega
  refine⟨by omega,fun x hx hs=>?_⟩;rcases List.mem_cons.1 hx with rfl|hx
  ·rw[if_pos hs] at h1 ⊢;have:x.low<=(if m<x.low then x.low else m):=by split<;>omega
   omega
  exact h2 x hx hs
theorem V8(i:Nat)(b:Int):∀(d:List Drw) (m:Int),m<=b->(∀x∈d,x.supply=(i:Int)->x.low<=b)->d.foldl (fun m x=>if x.supply=(i:Int) then(if m<x.low then x.low else m) else m) m<=b:=by
 intro d;induction d with
 |nil=>intro m h _;exact h
 |cons y d ih=>
  intro m h h2;simp only[List.foldl_cons];refine ih _ ?_ (fun x hx=>h2 x (by simp[hx]));have:=h2 y (by simp);split
  ·rename_i hs;have:=this hs;split<;>omega
  exact h
def yH(l:List Sup)(lv:List Int)(i:Nat):Int:=if h:i<l.length then l[i].levels.getD (lv.getD i 0).toNat 0 else 0
theorem Ac(l:List Sup)(on:List Bool)(lv:List Int)(i:Nat):vlt l ⟨on,lv⟩ i=yH l lv i:=rfl
structure IT(l:List Sup)(d:List Drw)(r:Rls)(n:Nat)(s:List Int×List Int):Prop where
 l1:s.1.length=l.length
 l2:s.2.length=l.length
 up:∀i,i<l.length->fF l d i->s.2.getD i 0<=vlt l r i
 at_:∀i,n<=i->i<l.length->fF l d i->s.2.getD i 0<=yH l s.1 i/\yH l s.1 i<=vlt l r i
 par:∀i (hi:i<l.length),n<=i->fF l d i->0<=l[i].parent->yH l s.1 i+l[i].dropout<=s.2.getD l[i].parent.toNat 0
 low:∀i,i<l.length->zS d i<=s.2.getD i 0
theorem Gz(xs:List Int)(i j:Nat)(v:Int)(hi:i<xs.length):(xs.set i v).getD j 0=if j=i then v else xs.getD j 0:=by
 simp only[List.getD_eq_getElem?_getD,List.getElem?_set];by_cases h:i=j
 ·subst h;simp[hi]
 rw[if_neg h,if_neg (Ne.symm h)]
section
variable {l:List Sup} {d:List Drw} {r:Rls}
theorem MO(hm:bi l r d):IT l d r l.length (List.replicate l.length 0,eB l.length d):=by
 have hg:∀i,i<l.length->(eB l.length d).getD i 0=zS d i:=fun i hi=>by simp[eB,List.getD_eq_getElem?_getD,hi]
 refine⟨by simp,Ph _ _,fun i hi hu=>?_,fun i h1 h2=>by omega,fun i hi h1=>by omega,fun i hi=>by simp only[hg i hi];exact Int.le_refl _⟩;simp only[hg i hi];have hb:=En hm.2.1 hi;refine V8 i _ d 0 (by omega) (fun x hx hs=>?_);obtain⟨k,hk,rfl⟩:=List.getElem_of_mem hx;have:=hm.2.2.2 k hk;unfold mA at this;rw[hs] at this;simpa using this.1
theorem QJ(hm:bi l r d){i:Nat}(hi:i<l.length){s:List Int×List Int}(h:IT l d r (i+1) s):∃s',iq l d i s=some s'/\IT l d r i s':=by
 by_cases hu:fF l d i
 ·obtain⟨rl,nr,en,tn,ev⟩:=tJ hm.2.1 i hi;have hup:=h.up i hi hu;rw[ev] at hup;have hg:l[i].levels.getD nr 0=l[i].levels[nr]:=by simp[List.getD_eq_getElem?_getD,tn]
  obtain⟨m,em,hmr,lK⟩:=TS l[i].levels (s.2.getD i 0) l[i].levels.length 0 nr (Nat.zero_le _) (by omega) (by rw[hg];exact hup);have em':lvI l[i].levels (s.2.getD i 0)=(m:Int):=em;have Eg:m<l[i].levels.length:=by omega
  have hgm:l[i].levels.getD m 0=l[i].levels[m]:=by simp[List.getD_eq_getElem?_getD,Eg]
  have mI:l[i].levels[m]<=l[i].levels[nr]:=xz (cW hm.1.1).2 hi nr tn m hmr;have hpi:=(cW hm.1.1).2 i hi;obtain⟨_,hso⟩:=hpi;have Io:=hso.1.2.1
  -- the level of i
  have lvi:∀x,yH l (s.1.set i (m:Int)) x=if x=i then l[i].levels[m] else yH l s.1 x:=fun x=>by
   unfold yH;by_cases hx:x<l.length
   ·rw[dif_pos hx,dif_pos hx,Gz _ _ _ _ (by rw[h.l1];exact hi)];by_cases e:x=i
    ·subst e;rw[if_pos rfl,if_pos rfl];simp only[Int.toNat_natCast];exact hgm
    rw[if_neg e,if_neg e]
   rw[dif_neg hx,dif_neg hx,if_neg (by omega)]
  by_cases hp:l[i].parent<0
  ·refine⟨_,rI hi hu em' (by omega) hp,⟨by simpa using h.l1,h.l2,h.up,fun x h1 h2 h3=>?_,fun x hx h1 h3 h4=>?_,h.low⟩⟩
   ·rw[lvi];by_cases e:x=i
    ·subst e;rw[if_pos rfl,ev];exact⟨by rw[<-hgm];exact lK,mI⟩
    rw[if_neg e];exact h.at_ x (by omega) h2 h3
   rw[lvi];by_cases e:x=i
   ·subst e;omega
   rw[if_neg e];exact h.par x hx (by omega) h3 h4
  obtain⟨p,ep⟩:=Int.eq_ofNat_of_zero_le (show 0<=l[i].parent by omega);have dw:p<l.length:=by omega
  have sw:p<s.2.length:=by rw[h.l2];exact dw
  have dU:=uy (v:=l[i].levels[m]+l[i].dropout) hi hu em' (by omega) ep sw (by simp only[Int.toNat_natCast];rw[hgm]);obtain⟨nv,rV⟩:∃nv,(if s.2[p]<l[i].levels[m]+l[i].dropout then l[i].levels[m]+l[i].dropout else s.2[p])=nv:=⟨_,rfl⟩;have hsp:s.2.getD p 0=s.2[p]:=by simp[List.getD_eq_getElem?_getD,sw]
  have nv1:s.2[p]<=nv:=by rw[<-rV];split<;>omega
  have nv2:l[i].levels[m]+l[i].dropout<=nv:=by rw[<-rV];split<;>omega
  have nv3:nv=s.2[p]∨nv=l[i].levels[m]+l[i].dropout:=by rw[<-rV];split;exact .inr rfl;exact .inl rfl
  rw[rV] at dU;have gs:∀x,(s.2.set p nv).getD x 0=if x=p then nv else s.2.getD x 0:=fun x=>Gz _ _ _ _ sw
  have ge:∀x,s.2.getD x 0<=(s.2.set p nv).getD x 0:=fun x=>by
   rw[gs];split
   ·rename_i e;subst e;rw[hsp];exact nv1
   exact Int.le_refl _
  have on1:=mM hm hi hu;have mo:=(ye hm hi on1).2 (by omega);rw[ep] at mo;simp only[Int.toNat_natCast] at mo;rw[ev] at mo;refine⟨_,dU,⟨by simpa using h.l1,by simpa using h.l2,fun x hx hxu=>?_,fun x h1 h2 h3=>?_,fun x hx h1 h3 h4=>?_,fun x hx=>Int.le_trans (h.low x hx) (ge x)⟩⟩
  ·simp only;rw[gs];split
   ·rename_i e;subst e;have:=h.up x hx hxu;rw[hsp] at this;have:=mo.2;rcases nv3 with q|q<;>omega
   exact h.up x hx hxu
  ·simp only;rw[lvi,gs,if_neg (show x≠p by omega)];by_cases e:x=i
   ·subst e;rw[if_pos rfl,ev];exact⟨by rw[<-hgm];exact lK,mI⟩
   rw[if_neg e];exact h.at_ x (by omega) h2 h3
  simp only;rw[lvi];by_cases e:x=i
  ·subst e;rw[if_pos rfl,ep,gs];simp only[Int.toNat_natCast,if_true];exact nv2
  rw[if_neg e];exact Int.le_trans (h.par x hx (by omega) h3 h4) (ge _)
 exact⟨s,vH hu,⟨h.l1,h.l2,h.up,fun x h1 h2 h3=>by
  by_cases e:x=i
  ·subst e;exact absurd h3 hu
  ·exact h.at_ x (by omega) h2 h3,fun x hx h1 h3 h4=>by
  by_cases e:x=i
  ·subst e;exact absurd h3 hu
  exact h.par x hx (by omega) h3 h4,h.low⟩⟩
theorem St(hm:bi l r d):∀m,m<=l.length->∃s,ix l d m=some s/\IT l d r (l.length-m) s:=by
 intro m;induction m with
 |zero=>intro _;exact⟨_,rfl,by simpa using MO hm⟩
 |succ m ih=>
  intro h;obtain⟨s,h1,h2⟩:=ih (by omega);have e:l.length-m=(l.length-1-m)+1:=by omega
  rw[e] at h2;obtain⟨s',h3,h4⟩:=QJ hm (by omega) h2;refine⟨s',?_,by rw[show l.length-(m+1)=l.length-1-m by omega];exact h4⟩;simp only[ix,h1,Option.bind_some,h3]
theorem zV(hm:bi l r d):lc l d=0:=by
 have hb:beg l d=0:=by unfold beg;rw[if_pos hm.1.1,if_pos hm.1]
 obtain⟨s,h1,h2⟩:=St hm l.length (Nat.le_refl _);rw[Nat.sub_self] at h2;have hM:my l ⟨cH l d,s.1⟩ d:=by
  have nG:∀i,i<l.length->(aQ ⟨cH l d,s.1⟩ i=true↔fF l d i):=fun i hi=>by
   have:aQ ⟨cH l d,s.1⟩ i=decide (fF l d i):=by rw[bT (show i<(⟨cH l d,s.1⟩:Rls).on.length by show i<(cH l d).length;rw[bN];exact hi)];exact ri l d i _
   rw[this,decide_eq_true_eq]
  refine⟨fun i hi=>⟨fun hu=>(nG i hi).2 hu,fun ho lJ=>?_⟩,fun k hk=>?_⟩
  ·have hu:=(nG i hi).1 ho;have mo:=ye hm hi (mM hm hi hu);refine⟨mo.1,fun hp=>?_⟩;obtain⟨p,ep⟩:=Int.eq_ofNat_of_zero_le hp;obtain⟨_,hso⟩:=(cW hm.1.1).2 i hi;have Io:=hso.1.2.1;have dw:p<l.length:=by omega
   have hup:fF l d p:=(Dl l d p dw).2 (.inr (.inr ⟨i,by omega,hi,ep,hu⟩));have hc:=h2.par i hi (Nat.zero_le _) hu hp;rw[ep] at hc ⊢;simp only[Int.toNat_natCast] at hc ⊢;refine⟨(nG p dw).2 hup,?_⟩;rw[Ac,Ac];have:=(h2.at_ p (Nat.zero_le _) dw hup).1;omega
  have hd:=hm.1.2.2 k hk;unfold fq at hd;obtain⟨p,ep⟩:=Int.eq_ofNat_of_zero_le hd.1;have dw:p<l.length:=by omega
  have hup:fF l d p:=(Dl l d p dw).2 (.inr (.inl ⟨d[k],List.getElem_mem hk,ep⟩));have ha:=h2.at_ p (Nat.zero_le _) dw hup;have hl:=h2.low p dw;have vU:=(Wz d p 0).2 d[k] (List.getElem_mem hk) ep;have jV:=hm.2.2.2 k hk;unfold mA at*;rw[ep] at jV ⊢;simp only[Int.toNat_natCast] at jV ⊢;rw[Ac];have:d[k].low<=zS d p:=vU;exact⟨by omega,by omega⟩
 have hR:lM l d=some ⟨cH l d,s.1⟩:=by unfold lM;rw[h1];simp only;rw[if_pos hM]
 exact(xi hb hR).1
end
theorem Lt{l:List Sup}{rs:List Rls}(h:chk l≠0):iL l rs=chk l:=by rw[iL,if_neg h]
theorem Fe{P:Program}(w:World)(t ty e:TypeId)(i:TypeInfo)(ht:P.underlying t=some (.slice e))(hi:P.info? e=some i)(b:Addr)(A:Option Addr)(c:Nat):
  (Builtin.append_ #[t,t] ty #[.slice (some b) 0 0,.slice A 0 c]).run P w= .ok (.slice (some b) 0 0) w:=by
 cases A with
 |none=>simp[Builtin.append_,run_underlying ht,sizeOf,typeInfo,hi,Builtin.lenOf,Builtin.firstCells,storeCells]
 |some ad=>have h0:=run_loadCells_list (P:=P) (w:=w) ad [] (fun j v h=>by simp at h);simp only[List.length_nil] at h0;simp[Builtin.append_,run_underlying ht,sizeOf,typeInfo,hi,Builtin.lenOf,Builtin.firstCells,storeCells,h0]
theorem uT{P:Program}(w:World){ops:Array Oper}{o:Oper}{a:Act}{K:Act->World->Prop}{Q:Exit->Act->World->Prop}{E:Prop}(jv:o.guard=none)(s x:Operand)(t:TypeId)
  (ho:o.op= .call {callee:= .builtin .append,args:= #[s,x],argTypes:= #[t,t]}) (e:TypeId) (i:TypeInfo) (ht:P.underlying t=some (.slice e)) (hi:P.info? e=some i)
  (b:Addr) (A:Option Addr) (c:Nat) (hv:a.eval s= .slice (some b) 0 0) (hx:a.eval x= .slice A 0 c)
  (h:K (a.put o.dst (.slice (some b) 0 0)) w):
  if Region.wanted o (yielded ops a.tmps)=true then Oper.wp P o a w K Q else E:=by
 have hw:Region.wanted o (yielded ops a.tmps)=true:=by simp[Region.wanted,jv]
 rw[if_pos hw];unfold Oper.wp execOp;simp only[ho,resolve,invoke,builtin,Sem.run_bind,Sem.run_pure,Result.andThen_ok,List.map_toArray,List.map_cons,List.map_nil,hv,hx,Fe w t o.type e i ht hi b A c];exact h
theorem F7(a1 a2:Option Addr)(c1 c2:Nat)(w:World):
  Calls Tryz.prog 65 #[.agg #[.slice a1 0 c1,.slice a2 0 c2]] w (pX w ⟨[],[]⟩):=by
 obtain⟨i0,hi,dt,da,cN⟩:=info_parts eS;obtain⟨j0,hj,kN,ka,lg⟩:=info_parts pe;go_enter Tryz.func65,Tryz.ntmps65;go_wp2_with fail
 go_region_law (first
  |(refine uT _ rfl _ _ 27 rfl 4 j0 Tryz.underlying27 hj _ a1 c1 (by simp[Act.eval,Act.put];rfl) (by simp[Act.eval,Act.put]) ?_)
  |(refine uT _ rfl _ _ 22 rfl 3 i0 Tryz.underlying22 hi _ a2 c2 (by simp[Act.eval,Act.put];rfl) (by simp[Act.eval,Act.put]) ?_))
 all_goals go_wp2_with fail
 all_goals
  refine bodyPost_ret (by simp[results,Tryz.results65,go_sem];exact rfl) rfl ?_;refine⟨_,_,_,_,rfl,Nat.zero_le _,Nat.zero_le _,.inl rfl,.inl rfl,?_⟩
 all_goals (repeat(first|with_reducible exact gfl _|with_reducible refine Gr.drew ?_|with_reducible refine Gr.alloc _ ?_|with_reducible refine Gr.xt _ _ ?_))
theorem xT(r:Rls)(a1 a2:Option Addr)(c1 c2:Nat)(w:World)(h1:ag 1 RB w a1 r.on)(h2:ag 1 RI w a2 r.level)(hl:r.on.length=r.level.length)(f1:r.on.length<=1000000):
  Calls Tryz.prog 65 #[.agg #[.slice a1 r.on.length c1,.slice a2 r.level.length c2]] w (pX w r):=by
 rcases Nat.eq_zero_or_pos r.on.length with e|e
 ·obtain⟨o,v⟩:=r;simp only at e hl;have e1:o= []:=List.eq_nil_of_length_eq_zero e;have e2:v= []:=List.eq_nil_of_length_eq_zero (by omega);subst e1 e2;exact F7 a1 a2 c1 c2 w
 exact IG r a1 a2 c1 c2 w h1 h2 e (by omega) f1 (by omega)
theorem Jp{s:Rls×List Wri}{i k:Nat}{x:Int}(h:k≠i):aF (gB s i x).1 k=aF s.1 k:=by simp only[aF,gB,List.getD_eq_getElem?_getD];rw[List.getElem?_set_ne (fun e=>h e.symm)]
theorem IL{s:Rls×List Wri}{i k:Nat}{b:Bool}(h:k≠i):aQ (fT s i b).1 k=aQ s.1 k:=by simp only[aQ,fT,List.getD_eq_getElem?_getD];rw[List.getElem?_set_ne (fun e=>h e.symm)]
theorem Mh(tg:Rls)(n:Nat)(s:Rls×List Wri)(m k:Nat)(h:k+m<n):aQ (cE tg n s m).1 k=aQ s.1 k/\aF (cE tg n s m).1 k=aF s.1 k:=by
 induction m with
 |zero=>exact⟨rfl,rfl⟩
 |succ m ih=>
  obtain⟨i1,i2⟩:=ih (by omega);have bS:k≠n-1-m:=by omega
  have e1:∀(q:Rls×List Wri) (x:Int),aQ (gB q (n-1-m) x).1 k=aQ q.1 k:=fun q x=>rfl;have e2:∀(q:Rls×List Wri) (b:Bool),aF (fT q (n-1-m) b).1 k=aF q.1 k:=fun q b=>rfl;simp only[cE];rw[e1,Jp bS];split
  ·exact⟨i1,i2⟩
  rw[IL bS,e2];exact⟨i1,i2⟩
noncomputable def dnW(s tg:Rls)(i:Nat):List Wri:=(if aQ s i=true/\aQ tg i=false then [⟨3,i,0⟩] else [])++(if aF s i=aF tg i then [] else [⟨2,i,aF tg i⟩])
theorem Ur(tg:Rls)(n:Nat)(s:Rls×List Wri)(m:Nat)(h:m<n):(cE tg n s (m+1)).2=(cE tg n s m).2++dnW s.1 tg (n-1-m):=by
 obtain⟨k1,k2⟩:=Mh tg n s m (n-1-m) (by omega);simp only[cE,dnW];by_cases ht:aQ tg (n-1-m)=true
 ·rw[if_pos ht,if_neg (fun q=>by rw[ht] at q;exact absurd q.2 (by simp))];simp only[gB,k2,List.nil_append];split<;>simp
 have Aa:aQ tg (n-1-m)=false:=by simpa using ht
 rw[if_neg ht];have e2:aF (fT (cE tg n s m) (n-1-m) false).1 (n-1-m)=aF s.1 (n-1-m):=k2;simp only[gB,e2];simp only[fT,k1,Aa];cases aQ s.1 (n-1-m)<;>(simp only[reduceCtorEq,if_true,if_false,and_true,List.nil_append,Bool.false_eq_true];split<;>simp)
theorem bR{W:World}{Y:Nat}{ty:TypeId}{u v:Value}(r:Row W Y ty [u,v]):W.cell? ⟨Y,0,none⟩=some u/\W.cell? ⟨Y,1,none⟩=some v/\Has W Y:=⟨r.cell 0 (by simp),r.cell 1 (by simp),r.has⟩
theorem Cm(a b:Rls)(n:Nat)(a1 a2 a3 a4:Option Addr)(c1 c2 c3 c4:Nat)(w:World)(h1:ag 1 RB w a1 a.on)(h2:ag 1 RI w a2 a.level)(h3:ag 1 RB w a3 b.on)(h4:ag 1 RI w a4 b.level)
  (n1:a.on.length=n) (n2:a.level.length=n) (n3:b.on.length=n) (n4:b.level.length=n) (hn:n<=16):
  Calls Tryz.prog 88 #[.agg #[.slice a1 a.on.length c1,.slice a2 a.level.length c2],.agg #[.slice a3 b.on.length c3,.slice a4 b.level.length c4]] w (pX w (aT a b)):=by
 have H1:=aa h1;have H2:=aa h2;have H3:=aa h3;have H4:=aa h4;have CP:=aa (fun W (hW:Gr w W)=>xT b a3 a4 c3 c4 W (h3.giB hW) (h4.giI hW) (by omega) (by omega));clear h1 h2 h3 h4;have N1:=aa n1;have N2:=aa n2;have N3:=aa n3;have N4:=aa n4;rw[n1,n2,n3,n4];rw[n3,n4] at CP;clear n1 n2 n3 n4;obtain⟨W0,hW0⟩:∃W0:World,Hid (W0=((w.alloc (.cells #[.slice a1 n c1,.slice a2 n c2] 29)).alloc (.cells #[.slice a3 n c3,.slice a4 n c4] 29)).alloc (.cells #[.slice none 0 0,.slice none 0 0] 29)):=⟨_,aa rfl⟩;go_enter Tryz.func88,Tryz.ntmps88;go_wp2_with fail;rw[<-hW0.out];have GW0:Hid (Gr w W0):=aa (by rw[hW0.out];exact(((gfl _).alloc _).alloc _).alloc _);have s1:(w.alloc (.cells #[.slice a1 n c1,.slice a2 n c2] 29)).heap.size=w.heap.size+1:=by simp
 have s2:((w.alloc (.cells #[.slice a1 n c1,.slice a2 n c2] 29)).alloc (.cells #[.slice a3 n c3,.slice a4 n c4] 29)).heap.size=w.heap.size+1+1:=by simp
 obtain⟨N,hN⟩:∃N:Nat,Hid (w.heap.size=N):=⟨_,aa rfl⟩;have RA:Hid (Row W0 N 29 [.slice a1 n c1,.slice a2 n c2]):=aa (by rw[hW0.out,<-hN.out];exact((Row.new _ _ _).alloc _).alloc _);have R1b:Hid (Row W0 (N+1) 29 [.slice a3 n c3,.slice a4 n c4]):=aa (by rw[hW0.out,<-hN.out,<-s1];exact(Row.new _ _ _).alloc _);have RZ:Hid (Row W0 (N+1+1) 29 [.slice none 0 0,.slice none 0 0]):=aa (by rw[hW0.out,<-hN.out,<-s2];exact Row.new _ _ _);have Z0:Hid (W0.heap.size=N+1+1+1):=aa (by rw[hW0.out,<-hN.out];simp);rw[hN.out];clear s1 s2 hW0;refine(CP.out W0 GW0.out).mono ?_;rintro e w1 ⟨a5,c5,a6,c6,eE,hc5,FG,o1,o2,bD⟩;rw[N3.out,N4.out] at eE;obtain rfl:=eE;rw[N3.out] at hc5;rw[N4.out] at FG;obtain⟨W2,hW2⟩:∃W2:World,Hid (W2=w1.alloc (.cells #[.slice a5 n c5,.slice a6 n c6] 29)):=⟨_,aa rfl⟩;obtain⟨B2,hB2⟩:∃B2:Nat,Hid (w1.heap.size=B2):=⟨_,aa rfl⟩;have Er:Hid (Gr w1 W2):=aa (by rw[hW2.out];exact(gfl _).alloc _);have R2:Hid (Row W2 B2 29 [.slice a5 n c5,.slice a6 n c6]):=aa (by rw[hW2.out,<-hB2.out];exact Row.new _ _ _);have Xb:=aa (bD.trans Er.out);have O1:=aa (o1.gr Er.out);have O2:=aa (o2.gr Er.out);clear o1 o2 bD;obtain⟨e0,e1,eh0⟩:=bR (RA.out.gr Xb.out);go_upto_region 2 with fail;rw[<-hW2.out,hB2.out];clear hW2;go_wp2_with fail;clear e0 e1 eh0;go_loopw [12] (fun i wr=>∃(k:Nat) (uo:List Bool) (ul:List Int),k<=n/\i= .int .i64 k/\Gr W0 wr/\Row wr B2 29 [.slice a5 n c5,.slice a6 n c6]/\bt W0.heap.size wr 4 (bg uo) a5/\bt W0.heap.size wr 3 (an ul) a6/\nO a b k uo ul) (fun i _=>n-(intOf i).toNat);case atStart=>exact⟨0,b.on,b.level,Nat.zero_le _,rfl,Xb.out,R2.out,O1.out,O2.out,nO.start a b⟩
 case round=>
  clear Xb R2 O1 O2;obtain⟨k,uo,ul,hk,rfl,hg,hr,p1,p2,hinv⟩:=hrel;have HI:=aa hinv;have kY:=aa hg;by_cases aA:k<n
  ·have k1:k<a.on.length:=by have:=N1.out;omega
   have k2:k<a.level.length:=by have:=N2.out;omega
   have k3:k<b.on.length:=by have:=N3.out;omega
   have k4:k<b.level.length:=by have:=N4.out;omega
   have ku:k<uo.length:=by have:=HI.out.1;have:=N3.out;omega
   have kl:k<ul.length:=by have:=HI.out.2.1;have:=N4.out;omega
   obtain⟨Bo,rfl,hBo,q1⟩:=p1.at (by simp[bg];omega);obtain⟨Bl,rfl,hBl,q2⟩:=p2.at (by simp[an];omega);have tU:=aa q1;have tS:=aa q2;have Bm:=aa hr;obtain⟨v1,w1',rfl,s1⟩:=(H1.out.giB GW0.out).one k k1;obtain⟨v2,w2',rfl,s2,s2w⟩:=(H2.out.giI GW0.out).one k k2;obtain⟨v3,w3',rfl,s3⟩:=(H3.out.giB GW0.out).one k k3;obtain⟨v4,w4',rfl,s4,s4w⟩:=(H4.out.giI GW0.out).one k k4;unfold RB at s1 s3;rw[<-bT k1] at s1;rw[<-bT k3] at s3;rw[<-bV k2] at s2;rw[<-bV k4] at s4;have S1:=aa s1;have S2:=aa s2;have S3:=aa s3;have S4:=aa s4;have UO:=aa (HI.out.uoAt k3 ku);have UL:=aa (HI.out.ulAt k4 kl);have HST:=aa (HI.out.step k3 k4);have gk:(k:Int)<n:=by omega
   clear hg hr p1 p2 hinv q1 q2 s1 s2 s3 s4 s2w s4w k1 k2 k3 k4;rcases Bool.eq_false_or_eq_true (aQ a k) with ha|ha
   ·rcases Bool.eq_false_or_eq_true (aQ b k) with hb|hb
    ·by_cases hm:aF a k<aF b k
     ·have _u:=True.intro;have hj:jlv a b k=aF b k:=(by simp only[jlv,ha,hb,if_true];rw[if_pos hm]);have HJ:=aa hj;have HA:=aa ha;have HB:=aa hb;clear hj;obtain⟨e0,e1,eh0⟩:=bR (RA.out.gr kY.out);obtain⟨e2,e3,eh1⟩:=bR (R1b.out.gr kY.out);obtain⟨b0,b1,bh⟩:=bR Bm.out;have s1:wr.cell? ⟨v1,w1'+k,none⟩=some (.bool (aQ a k)):=aB kY.out S1.out;have s2:wr.cell? ⟨v2,w2'+k,none⟩=some (.int .i64 (aF a k)):=aB kY.out S2.out;have s3:wr.cell? ⟨v3,w3'+k,none⟩=some (.bool (aQ b k)):=aB kY.out S3.out;have s4:wr.cell? ⟨v4,w4'+k,none⟩=some (.int .i64 (aF b k)):=aB kY.out S4.out;have y1:=ae s1;have y2:=ae s2;have y3:=ae s3;have y4:=ae s4;have z1:=tU.out.has;have z2:=tS.out.has;have z3:=tU.out.free k;have z4:=tS.out.free k;have z5:=True.intro;have z6:=True.intro;rw[ha] at s1;rw[hb] at s3;go_wp2_with fail;refine bZ 15 (by kernel_rfl) (by kernel_rfl) ?_;simp only[List.take_succ_cons,List.take_zero,List.drop_succ_cons,List.drop_zero];repeat(go_big_quiet_step (fail))
      refine wpQuiet_nil ?_;rintro _ ⟨⟨O,d⟩,rfl⟩;obtain⟨W3x,hW3x⟩:∃W:World,Hid (W=xt wr O d):=⟨_,aa rfl⟩;show wpList _ _ _ _ _ (xt wr O d);rw[<-hW3x.out];have sg:Hid (Gr wr W3x):=aa (by rw[hW3x.out];exact(gfl _).xt O d);have GW3x:=aa (kY.out.trans sg.out);have RwW3x:=aa (Bm.out.gr sg.out);have POW3x:=aa (tU.out.gr sg.out);have PLW3x:=aa (tS.out.gr sg.out);clear hW3x e0 e1 e2 e3 eh0 eh1 b0 b1 bh s1 s2 s3 s4 y1 y2 y3 y4 z1 z2 z3 z4 z5 z6;have z6:=PLW3x.out.iat k kl;have z4:=PLW3x.out.free k;have z2:=PLW3x.out.has;obtain⟨W3,hW3⟩:∃W:World,Hid (W=W3x.setCell ⟨Bl,k,none⟩ (.int .i64 (aF b k))):=⟨_,aa rfl⟩;have GW3:Hid (Gr W0 W3):=aa (by rw[hW3.out];exact GW3x.out.setc hBl);have RwW3:Hid (Row W3 B2 29 [.slice (some ⟨Bo,0,none⟩) n c5,.slice (some ⟨Bl,0,none⟩) n c6]):=aa (by rw[hW3.out];exact RwW3x.out.oth (fun e=>(RwW3x.out.s.apart PLW3x.out (by decide)) e.symm));have POW3:Hid (bd W3 Bo 4 (bg uo)):=aa (by rw[hW3.out];exact POW3x.out.oth (fun e=>(POW3x.out.apart PLW3x.out (by decide)) e.symm));have PLW3:Hid (bd W3 Bl 3 (an (ul.set k (aF b k)))):=aa (by rw[hW3.out];exact PLW3x.out.iset k kl _);go_upto_region 9 with fail;rw[<-hW3.out];clear z6 z4 z2;obtain⟨e0,e1,eh0⟩:=bR (RA.out.gr GW3.out);obtain⟨e2,e3,eh1⟩:=bR (R1b.out.gr GW3.out);obtain⟨b0,b1,bh⟩:=bR RwW3.out;have s1:W3.cell? ⟨v1,w1'+k,none⟩=some (.bool (aQ a k)):=aB GW3.out S1.out;have s2:W3.cell? ⟨v2,w2'+k,none⟩=some (.int .i64 (aF a k)):=aB GW3.out S2.out;have s3:W3.cell? ⟨v3,w3'+k,none⟩=some (.bool (aQ b k)):=aB GW3.out S3.out;have s4:W3.cell? ⟨v4,w4'+k,none⟩=some (.int .i64 (aF b k)):=aB GW3.out S4.out;have y1:=ae s1;have y2:=ae s2;have y3:=ae s3;have y4:=ae s4;have z1:=POW3.out.has;have z2:=PLW3.out.has;have z3:=POW3.out.free k;have z4:=PLW3.out.free k;have z5:=True.intro;have z6:=True.intro;rw[ha] at s1;rw[hb] at s3;go_wp2_with fail;refine bZ 16 (by kernel_rfl) (by kernel_rfl) ?_;simp only[List.take_succ_cons,List.take_zero,List.drop_succ_cons,List.drop_zero];repeat(go_big_quiet_step (fail))
      refine wpQuiet_nil ?_;rintro _ ⟨⟨O,d⟩,rfl⟩;obtain⟨W4x,hW4x⟩:∃W:World,Hid (W=xt W3 O d):=⟨_,aa rfl⟩;show wpList _ _ _ _ _ (xt W3 O d);rw[<-hW4x.out];have m5:Hid (Gr W3 W4x):=aa (by rw[hW4x.out];exact(gfl _).xt O d);have GW4x:=aa (GW3.out.trans m5.out);have RwW4x:=aa (RwW3.out.gr m5.out);have POW4x:=aa (POW3.out.gr m5.out);have PLW4x:=aa (PLW3.out.gr m5.out);clear hW4x e0 e1 e2 e3 eh0 eh1 b0 b1 bh s1 s2 s3 s4 y1 y2 y3 y4 z1 z2 z3 z4 z5 z6;have z5:=POW4x.out.bat k ku;have z4:=POW4x.out.free k;have z2:=POW4x.out.has;obtain⟨W4,hW4⟩:∃W:World,Hid (W=W4x.setCell ⟨Bo,k,none⟩ (.bool true)):=⟨_,aa rfl⟩;have GW4:Hid (Gr W0 W4):=aa (by rw[hW4.out];exact GW4x.out.setc hBo);have RwW4:Hid (Row W4 B2 29 [.slice (some ⟨Bo,0,none⟩) n c5,.slice (some ⟨Bl,0,none⟩) n c6]):=aa (by rw[hW4.out];exact RwW4x.out.oth (fun e=>(RwW4x.out.s.apart POW4x.out (by decide)) e.symm));have POW4:Hid (bd W4 Bo 4 (bg (uo.set k true))):=aa (by rw[hW4.out];exact POW4x.out.bset k ku _);have PLW4:Hid (bd W4 Bl 3 (an (ul.set k (aF b k)))):=aa (by rw[hW4.out];exact PLW4x.out.oth (fun e=>(POW4x.out.apart PLW4x.out (by decide)) e));go_wp2_with fail;rw[<-hW4.out];go_roundw;case rel=>refine⟨k+1,uo.set k true,(ul.set k (aF b k)),by omega,by go_num,GW4.out,RwW4.out,.inr ⟨Bo,rfl,hBo,POW4.out⟩,.inr ⟨Bl,rfl,hBl,PLW4.out⟩,?_⟩;have:=HST.out;rwa [HJ.out,show(aQ a k||aQ b k)=true from by rw[HA.out,HB.out];rfl] at this
      case measure=>simp[intOf];omega
     have _u:=True.intro;have hj:jlv a b k=aF a k:=(by simp only[jlv,ha,hb,if_true];rw[if_neg hm]);have HJ:=aa hj;have HA:=aa ha;have HB:=aa hb;clear hj;obtain⟨e0,e1,eh0⟩:=bR (RA.out.gr kY.out);obtain⟨e2,e3,eh1⟩:=bR (R1b.out.gr kY.out);obtain⟨b0,b1,bh⟩:=bR Bm.out;have s1:wr.cell? ⟨v1,w1'+k,none⟩=some (.bool (aQ a k)):=aB kY.out S1.out;have s2:wr.cell? ⟨v2,w2'+k,none⟩=some (.int .i64 (aF a k)):=aB kY.out S2.out;have s3:wr.cell? ⟨v3,w3'+k,none⟩=some (.bool (aQ b k)):=aB kY.out S3.out;have s4:wr.cell? ⟨v4,w4'+k,none⟩=some (.int .i64 (aF b k)):=aB kY.out S4.out;have y1:=ae s1;have y2:=ae s2;have y3:=ae s3;have y4:=ae s4;have z1:=tU.out.has;have z2:=tS.out.has;have z3:=tU.out.free k;have z4:=tS.out.free k;have z5:=True.intro;have z6:=True.intro;rw[ha] at s1;rw[hb] at s3;go_wp2_with fail;refine bZ 15 (by kernel_rfl) (by kernel_rfl) ?_;simp only[List.take_succ_cons,List.take_zero,List.drop_succ_cons,List.drop_zero];repeat(go_big_quiet_step (fail))
     refine wpQuiet_nil ?_;rintro _ ⟨⟨O,d⟩,rfl⟩;obtain⟨W3x,hW3x⟩:∃W:World,Hid (W=xt wr O d):=⟨_,aa rfl⟩;show wpList _ _ _ _ _ (xt wr O d);rw[<-hW3x.out];have sg:Hid (Gr wr W3x):=aa (by rw[hW3x.out];exact(gfl _).xt O d);have GW3x:=aa (kY.out.trans sg.out);have RwW3x:=aa (Bm.out.gr sg.out);have POW3x:=aa (tU.out.gr sg.out);have PLW3x:=aa (tS.out.gr sg.out);clear hW3x e0 e1 e2 e3 eh0 eh1 b0 b1 bh s1 s2 s3 s4 y1 y2 y3 y4 z1 z2 z3 z4 z5 z6;have z6:=PLW3x.out.iat k kl;have z4:=PLW3x.out.free k;have z2:=PLW3x.out.has;obtain⟨W3,hW3⟩:∃W:World,Hid (W=W3x.setCell ⟨Bl,k,none⟩ (.int .i64 (aF a k))):=⟨_,aa rfl⟩;have GW3:Hid (Gr W0 W3):=aa (by rw[hW3.out];exact GW3x.out.setc hBl);have RwW3:Hid (Row W3 B2 29 [.slice (some ⟨Bo,0,none⟩) n c5,.slice (some ⟨Bl,0,none⟩) n c6]):=aa (by rw[hW3.out];exact RwW3x.out.oth (fun e=>(RwW3x.out.s.apart PLW3x.out (by decide)) e.symm));have POW3:Hid (bd W3 Bo 4 (bg uo)):=aa (by rw[hW3.out];exact POW3x.out.oth (fun e=>(POW3x.out.apart PLW3x.out (by decide)) e.symm));have PLW3:Hid (bd W3 Bl 3 (an (ul.set k (aF a k)))):=aa (by rw[hW3.out];exact PLW3x.out.iset k kl _);go_upto_region 9 with fail;rw[<-hW3.out];clear z6 z4 z2;obtain⟨e0,e1,eh0⟩:=bR (RA.out.gr GW3.out);obtain⟨e2,e3,eh1⟩:=bR (R1b.out.gr GW3.out);obtain⟨b0,b1,bh⟩:=bR RwW3.out;have s1:W3.cell? ⟨v1,w1'+k,none⟩=some (.bool (aQ a k)):=aB GW3.out S1.out;have s2:W3.cell? ⟨v2,w2'+k,none⟩=some (.int .i64 (aF a k)):=aB GW3.out S2.out;have s3:W3.cell? ⟨v3,w3'+k,none⟩=some (.bool (aQ b k)):=aB GW3.out S3.out;have s4:W3.cell? ⟨v4,w4'+k,none⟩=some (.int .i64 (aF b k)):=aB GW3.out S4.out;have y1:=ae s1;have y2:=ae s2;have y3:=ae s3;have y4:=ae s4;have z1:=POW3.out.has;have z2:=PLW3.out.has;have z3:=POW3.out.free k;have z4:=PLW3.out.free k;have z5:=True.intro;have z6:=True.intro;rw[ha] at s1;rw[hb] at s3;go_wp2_with fail;refine bZ 16 (by kernel_rfl) (by kernel_rfl) ?_;simp only[List.take_succ_cons,List.take_zero,List.drop_succ_cons,List.drop_zero];repeat(go_big_quiet_step (fail))
     refine wpQuiet_nil ?_;rintro _ ⟨⟨O,d⟩,rfl⟩;obtain⟨W4x,hW4x⟩:∃W:World,Hid (W=xt W3 O d):=⟨_,aa rfl⟩;show wpList _ _ _ _ _ (xt W3 O d);rw[<-hW4x.out];have m5:Hid (Gr W3 W4x):=aa (by rw[hW4x.out];exact(gfl _).xt O d);have GW4x:=aa (GW3.out.trans m5.out);have RwW4x:=aa (RwW3.out.gr m5.out);have POW4x:=aa (POW3.out.gr m5.out);have PLW4x:=aa (PLW3.out.gr m5.out);clear hW4x e0 e1 e2 e3 eh0 eh1 b0 b1 bh s1 s2 s3 s4 y1 y2 y3 y4 z1 z2 z3 z4 z5 z6;have z5:=POW4x.out.bat k ku;have z4:=POW4x.out.free k;have z2:=POW4x.out.has;obtain⟨W4,hW4⟩:∃W:World,Hid (W=W4x.setCell ⟨Bo,k,none⟩ (.bool true)):=⟨_,aa rfl⟩;have GW4:Hid (Gr W0 W4):=aa (by rw[hW4.out];exact GW4x.out.setc hBo);have RwW4:Hid (Row W4 B2 29 [.slice (some ⟨Bo,0,none⟩) n c5,.slice (some ⟨Bl,0,none⟩) n c6]):=aa (by rw[hW4.out];exact RwW4x.out.oth (fun e=>(RwW4x.out.s.apart POW4x.out (by decide)) e.symm));have POW4:Hid (bd W4 Bo 4 (bg (uo.set k true))):=aa (by rw[hW4.out];exact POW4x.out.bset k ku _);have PLW4:Hid (bd W4 Bl 3 (an (ul.set k (aF a k)))):=aa (by rw[hW4.out];exact PLW4x.out.oth (fun e=>(POW4x.out.apart PLW4x.out (by decide)) e));go_wp2_with fail;rw[<-hW4.out];go_roundw;case rel=>refine⟨k+1,uo.set k true,(ul.set k (aF a k)),by omega,by go_num,GW4.out,RwW4.out,.inr ⟨Bo,rfl,hBo,POW4.out⟩,.inr ⟨Bl,rfl,hBl,PLW4.out⟩,?_⟩;have:=HST.out;rwa [HJ.out,show(aQ a k||aQ b k)=true from by rw[HA.out,HB.out];rfl] at this
     case measure=>simp[intOf];omega
    have _u:=True.intro;have hj:jlv a b k=aF a k:=(by simp[jlv,ha,hb]);have HJ:=aa hj;have HA:=aa ha;have HB:=aa hb;clear hj;obtain⟨e0,e1,eh0⟩:=bR (RA.out.gr kY.out);obtain⟨e2,e3,eh1⟩:=bR (R1b.out.gr kY.out);obtain⟨b0,b1,bh⟩:=bR Bm.out;have s1:wr.cell? ⟨v1,w1'+k,none⟩=some (.bool (aQ a k)):=aB kY.out S1.out;have s2:wr.cell? ⟨v2,w2'+k,none⟩=some (.int .i64 (aF a k)):=aB kY.out S2.out;have s3:wr.cell? ⟨v3,w3'+k,none⟩=some (.bool (aQ b k)):=aB kY.out S3.out;have s4:wr.cell? ⟨v4,w4'+k,none⟩=some (.int .i64 (aF b k)):=aB kY.out S4.out;have y1:=ae s1;have y2:=ae s2;have y3:=ae s3;have y4:=ae s4;have z1:=tU.out.has;have z2:=tS.out.has;have z3:=tU.out.free k;have z4:=tS.out.free k;have z5:=True.intro;have z6:=True.intro;rw[ha] at s1;rw[hb] at s3;go_wp2_with fail;refine bZ 9 (by kernel_rfl) (by kernel_rfl) ?_;simp only[List.take_succ_cons,List.take_zero,List.drop_succ_cons,List.drop_zero];repeat(go_big_quiet_step (fail))
    refine wpQuiet_nil ?_;rintro _ ⟨⟨O,d⟩,rfl⟩;obtain⟨W3x,hW3x⟩:∃W:World,Hid (W=xt wr O d):=⟨_,aa rfl⟩;show wpList _ _ _ _ _ (xt wr O d);rw[<-hW3x.out];have sg:Hid (Gr wr W3x):=aa (by rw[hW3x.out];exact(gfl _).xt O d);have GW3x:=aa (kY.out.trans sg.out);have RwW3x:=aa (Bm.out.gr sg.out);have POW3x:=aa (tU.out.gr sg.out);have PLW3x:=aa (tS.out.gr sg.out);clear hW3x e0 e1 e2 e3 eh0 eh1 b0 b1 bh s1 s2 s3 s4 y1 y2 y3 y4 z1 z2 z3 z4 z5 z6;have z6:=PLW3x.out.iat k kl;have z4:=PLW3x.out.free k;have z2:=PLW3x.out.has;obtain⟨W3,hW3⟩:∃W:World,Hid (W=W3x.setCell ⟨Bl,k,none⟩ (.int .i64 (aF a k))):=⟨_,aa rfl⟩;have GW3:Hid (Gr W0 W3):=aa (by rw[hW3.out];exact GW3x.out.setc hBl);have RwW3:Hid (Row W3 B2 29 [.slice (some ⟨Bo,0,none⟩) n c5,.slice (some ⟨Bl,0,none⟩) n c6]):=aa (by rw[hW3.out];exact RwW3x.out.oth (fun e=>(RwW3x.out.s.apart PLW3x.out (by decide)) e.symm));have POW3:Hid (bd W3 Bo 4 (bg uo)):=aa (by rw[hW3.out];exact POW3x.out.oth (fun e=>(POW3x.out.apart PLW3x.out (by decide)) e.symm));have PLW3:Hid (bd W3 Bl 3 (an (ul.set k (aF a k)))):=aa (by rw[hW3.out];exact PLW3x.out.iset k kl _);go_upto_region 9 with fail;rw[<-hW3.out];clear z6 z4 z2;obtain⟨e0,e1,eh0⟩:=bR (RA.out.gr GW3.out);obtain⟨e2,e3,eh1⟩:=bR (R1b.out.gr GW3.out);obtain⟨b0,b1,bh⟩:=bR RwW3.out;have s1:W3.cell? ⟨v1,w1'+k,none⟩=some (.bool (aQ a k)):=aB GW3.out S1.out;have s2:W3.cell? ⟨v2,w2'+k,none⟩=some (.int .i64 (aF a k)):=aB GW3.out S2.out;have s3:W3.cell? ⟨v3,w3'+k,none⟩=some (.bool (aQ b k)):=aB GW3.out S3.out;have s4:W3.cell? ⟨v4,w4'+k,none⟩=some (.int .i64 (aF b k)):=aB GW3.out S4.out;have y1:=ae s1;have y2:=ae s2;have y3:=ae s3;have y4:=ae s4;have z1:=POW3.out.has;have z2:=PLW3.out.has;have z3:=POW3.out.free k;have z4:=PLW3.out.free k;have z5:=True.intro;have z6:=True.intro;rw[ha] at s1;rw[hb] at s3;go_wp2_with fail;refine bZ 16 (by kernel_rfl) (by kernel_rfl) ?_;simp only[List.take_succ_cons,List.take_zero,List.drop_succ_cons,List.drop_zero];repeat(go_big_quiet_step (fail))
    refine wpQuiet_nil ?_;rintro _ ⟨⟨O,d⟩,rfl⟩;obtain⟨W4x,hW4x⟩:∃W:World,Hid (W=xt W3 O d):=⟨_,aa rfl⟩;show wpList _ _ _ _ _ (xt W3 O d);rw[<-hW4x.out];have m5:Hid (Gr W3 W4x):=aa (by rw[hW4x.out];exact(gfl _).xt O d);have GW4x:=aa (GW3.out.trans m5.out);have RwW4x:=aa (RwW3.out.gr m5.out);have POW4x:=aa (POW3.out.gr m5.out);have PLW4x:=aa (PLW3.out.gr m5.out);clear hW4x e0 e1 e2 e3 eh0 eh1 b0 b1 bh s1 s2 s3 s4 y1 y2 y3 y4 z1 z2 z3 z4 z5 z6;have z5:=POW4x.out.bat k ku;have z4:=POW4x.out.free k;have z2:=POW4x.out.has;obtain⟨W4,hW4⟩:∃W:World,Hid (W=W4x.setCell ⟨Bo,k,none⟩ (.bool true)):=⟨_,aa rfl⟩;have GW4:Hid (Gr W0 W4):=aa (by rw[hW4.out];exact GW4x.out.setc hBo);have RwW4:Hid (Row W4 B2 29 [.slice (some ⟨Bo,0,none⟩) n c5,.slice (some ⟨Bl,0,none⟩) n c6]):=aa (by rw[hW4.out];exact RwW4x.out.oth (fun e=>(RwW4x.out.s.apart POW4x.out (by decide)) e.symm));have POW4:Hid (bd W4 Bo 4 (bg (uo.set k true))):=aa (by rw[hW4.out];exact POW4x.out.bset k ku _);have PLW4:Hid (bd W4 Bl 3 (an (ul.set k (aF a k)))):=aa (by rw[hW4.out];exact PLW4x.out.oth (fun e=>(POW4x.out.apart PLW4x.out (by decide)) e));go_wp2_with fail;rw[<-hW4.out];go_roundw;case rel=>refine⟨k+1,uo.set k true,(ul.set k (aF a k)),by omega,by go_num,GW4.out,RwW4.out,.inr ⟨Bo,rfl,hBo,POW4.out⟩,.inr ⟨Bl,rfl,hBl,PLW4.out⟩,?_⟩;have:=HST.out;rwa [HJ.out,show(aQ a k||aQ b k)=true from by rw[HA.out];rfl] at this
    case measure=>simp[intOf];omega
   have _u:=True.intro;have hj:jlv a b k=aF b k:=by simp[jlv,ha]
   have HJ:=aa hj;have HA:=aa ha
   skip
   clear hj;obtain⟨e0,e1,eh0⟩:=bR (RA.out.gr kY.out);obtain⟨e2,e3,eh1⟩:=bR (R1b.out.gr kY.out);obtain⟨b0,b1,bh⟩:=bR Bm.out;have s1:wr.cell? ⟨v1,w1'+k,none⟩=some (.bool (aQ a k)):=aB kY.out S1.out;have s2:wr.cell? ⟨v2,w2'+k,none⟩=some (.int .i64 (aF a k)):=aB kY.out S2.out;have s3:wr.cell? ⟨v3,w3'+k,none⟩=some (.bool (aQ b k)):=aB kY.out S3.out;have s4:wr.cell? ⟨v4,w4'+k,none⟩=some (.int .i64 (aF b k)):=aB kY.out S4.out;have y1:=ae s1;have y2:=ae s2;have y3:=ae s3;have y4:=ae s4;have z1:=tU.out.has;have z2:=tS.out.has;have z3:=tU.out.free k;have z4:=tS.out.free k;have z5:=True.intro;have z6:=True.intro;rw[ha] at s1;go_wp2_with fail;refine bZ 16 (by kernel_rfl) (by kernel_rfl) ?_;simp only[List.take_succ_cons,List.take_zero,List.drop_succ_cons,List.drop_zero];repeat(go_big_quiet_step (fail))
   refine wpQuiet_nil ?_;rintro _ ⟨⟨O,d⟩,rfl⟩;obtain⟨W4x,hW4x⟩:∃W:World,Hid (W=xt wr O d):=⟨_,aa rfl⟩;show wpList _ _ _ _ _ (xt wr O d);rw[<-hW4x.out];have m5:Hid (Gr wr W4x):=aa (by rw[hW4x.out];exact(gfl _).xt O d);have GW4x:=aa (kY.out.trans m5.out);have RwW4x:=aa (Bm.out.gr m5.out);have POW4x:=aa (tU.out.gr m5.out);have PLW4x:=aa (tS.out.gr m5.out);clear hW4x e0 e1 e2 e3 eh0 eh1 b0 b1 bh s1 s2 s3 s4 y1 y2 y3 y4 z1 z2 z3 z4 z5 z6;have z5:=POW4x.out.bat k ku;have z4:=POW4x.out.free k;have z2:=POW4x.out.has;obtain⟨W4,hW4⟩:∃W:World,Hid (W=W4x.setCell ⟨Bo,k,none⟩ (.bool (aQ b k))):=⟨_,aa rfl⟩;have GW4:Hid (Gr W0 W4):=aa (by rw[hW4.out];exact GW4x.out.setc hBo);have RwW4:Hid (Row W4 B2 29 [.slice (some ⟨Bo,0,none⟩) n c5,.slice (some ⟨Bl,0,none⟩) n c6]):=aa (by rw[hW4.out];exact RwW4x.out.oth (fun e=>(RwW4x.out.s.apart POW4x.out (by decide)) e.symm));have POW4:Hid (bd W4 Bo 4 (bg (uo.set k (aQ b k)))):=aa (by rw[hW4.out];exact POW4x.out.bset k ku _);have PLW4:Hid (bd W4 Bl 3 (an ul)):=aa (by rw[hW4.out];exact PLW4x.out.oth (fun e=>(POW4x.out.apart PLW4x.out (by decide)) e));go_wp2_with fail;rw[<-hW4.out];go_roundw;case rel=>refine⟨k+1,uo.set k (aQ b k),ul,by omega,by go_num,GW4.out,RwW4.out,.inr ⟨Bo,rfl,hBo,POW4.out⟩,.inr ⟨Bl,rfl,hBl,PLW4.out⟩,?_⟩;have:=HST.out;rwa [HJ.out,HA.out,Bool.false_or,kG ul k kl _ UL.out] at this
   case measure=>simp[intOf];omega
  obtain rfl:k=n:=by omega
  obtain⟨d1,d2⟩:=HI.out.done (by have:=N3.out;omega) (by have:=N4.out;omega);obtain⟨b0,b1,bh⟩:=bR hr;have r:=RZ.out.gr hg;have r0:=r.cell 0 (by simp);have r1:=r.cell 1 (by simp);have r2:=r.free 0;have r3:=r.free 1;have r4:=r.has;simp only[List.getElem_cons_zero,List.getElem_cons_succ] at r0 r1;have D1:=aa d1;have D2:=aa d2;have GN:w.heap.size<=N+1+1:=by have:=hN.out;omega
  have LO:N+1+1<W0.heap.size:=by have:=Z0.out;omega
  rw[d1] at p1;rw[d2] at p2;have P1:=aa (((p1.oth (o:=0) (v:= .slice a5 k c5) LO).oth (o:=1) (v:= .slice a6 k c6) LO).low GW0.out.size);have P2:=aa (((p2.oth (o:=0) (v:= .slice a5 k c5) LO).oth (o:=1) (v:= .slice a6 k c6) LO).low GW0.out.size);have GE:=aa (((GW0.out.trans hg).setc (o:=0) (v:= .slice a5 k c5) GN).setc (o:=1) (v:= .slice a6 k c6) GN);have L1:Hid ((aT a b).on.length=k):=aa (by rw[iH];exact N3.out);have L2:Hid ((aT a b).level.length=k):=aa (by rw[jr];exact N4.out);clear d1 d2 hg hr p1 p2 hinv r GN LO;go_wp2_with fail;refine bodyPost_ret (v:= .agg #[.slice a5 k c5,.slice a6 k c6]) ?_ rfl ?_
  ·simp[results,Tryz.results88,go_sem,r0,r1]
  exact⟨a5,c5,a6,c6,by rw[L1.out,L2.out],by rw[L1.out];exact hc5,by rw[L2.out];exact FG,P1.out,P2.out,GE.out⟩
end
end Go.Proofs.YtlmhkjdkcoiioaaGreatDoor
