/- Lemmas and contracts for the proof of LinkAnswers (several texts in one, printed by wip/tools/pack.py): VeA LoC. -/
import Derived.Test.YtdjhnfopdlgliaaGreatLa1pb
set_option maxRecDepth 100000
set_option maxHeartbeats 16000000
set_option linter.unusedVariables false
set_option linter.unusedSimpArgs false
namespace Go.Proofs.YtdjhnfopdlgliaaGreat
open Go.RowKit
open Classical
structure WShp(n:Nat)(q:Nat→Nat)(nm:Nat→St):Prop where
 par:∀i,0<i→i<n→q i<i
 ord:∀i,0<i→i<n→Anc q (q i) (i-1)
 sib:∀i j,0<i→i<j→j<n→q i=q j→ltS (nm j) (nm i)=false
theorem chl_ascW{n:Nat}{q:Nat→Nat}{nm:Nat→St}(hs:∀i j,0<i→i<j→j<n→q i=q j→ltS (nm j) (nm i)=false)(x:Nat):∀m,m≤n→(chl q nm x m).Pairwise (·< ·):=by
 intro m
 induction m with
 |zero=>intro _;simp[chl]
 |succ m ih=>
  intro hm
  rw[chl]
  split
  ·rename_i h
   have hlt:∀c∈chl q nm x m,c<m∧c≠0∧q c=x:=fun c hc=>(mem_chl m).1 hc
   rw[insC_end (fun c hc=>by
    obtain⟨h1,h2,h3⟩:=hlt c hc
    exact hs c m (by omega) h1 (by omega) (by rw[h3,h.2]))]
   rw[List.pairwise_append]
   exact⟨ih (by omega),by simp,fun a ha b hb=>by rw[List.mem_singleton.1 hb];exact(hlt a ha).1⟩
  ·exact ih (by omega)
theorem sub_endW{n:Nat}{q:Nat→Nat}{nm:Nat→St}(hs:WShp n q nm){k j:Nat}(hk:k<j)(hj:¬Anc q k j):∀m,j≤m→m<n→¬Anc q k m:=by
 intro m hm
 induction m with
 |zero=>omega
 |succ m ih=>
  intro hn h
  by_cases e:j=m+1
  ·subst e;exact hj h
  ·cases h with
   |refl=>omega
   |up h0 h1=>
    have h2:=hs.ord (m+1) (by omega) hn
    exact ih (by omega) (by omega) (anc_trans h1 h2)
theorem walk_rangeW{n:Nat}{q:Nat→Nat}{nm:Nat→St}(hs:WShp n q nm):∀f x e,n≤f+x→x<n→EndOf n q x e→walkF n q nm f x=List.range' x (e-x):=by
 intro f
 induction f with
 |zero=>intro x e hf hx _;omega
 |succ f ih=>
  intro x e hf hx he
  have hC:chl q nm x n=chFrom n q x (x+1):=by
   refine asc_ext (chl_ascW hs.sib x n (Nat.le_refl _)) (asc_filter _ (asc_range _ _)) (fun i=>?_)
   rw[mem_chl,mem_chFrom]
   constructor
   ·rintro⟨h1,h2,h3⟩
    have:=hs.par i (by omega) h1
    exact⟨by omega,h1,h3⟩
   ·rintro⟨h1,h2,h3⟩;exact⟨h2,by omega,h3⟩
  have key:∀d j,e-j=d→x<j→j≤e→(j=e∨q j=x)→(chFrom n q x j).flatMap (walkF n q nm f)=List.range' j (e-j):=by
   intro d
   induction d using Nat.strongRecOn with
   |ind d ihd=>
    intro j hd hxj hje hor
    by_cases hj:j=e
    ·subst hj
     have:chFrom n q x j= []:=by
      rw[List.eq_nil_iff_forall_not_mem]
      intro i hi
      rw[mem_chFrom] at hi
      have h1:=he.out (by omega)
      exact sub_endW hs hxj h1 i hi.1 hi.2.1 (.up (by omega) (by rw[hi.2.2];exact .refl))
     rw[this,Nat.sub_self];rfl
    ·have hjn:j<n:=by have:=he.hi;omega
     have hq:q j=x:=hor.resolve_left hj
     obtain⟨j2,hj2⟩:=end_ex n q j hjn
     have l2:=hj2.lo
     have hxA:Anc q x j:= .up (by omega) (by rw[hq];exact .refl)
     have hj2e:j2≤e:=by
      refine Classical.byContradiction fun h=>?_
      have h1:e<n:=by have:=hj2.hi;omega
      exact he.out h1 (anc_trans hxA (hj2.inn e (by omega) (by omega)))
     have hor2:j2=e∨q j2=x:=by
      by_cases h:j2=e
      ·exact .inl h
      ·refine .inr ?_
       have h1:j2<n:=by have:=he.hi;omega
       have hx2:=anc_q (he.inn j2 (by omega) (by omega)) (by omega)
       have h2:=hs.ord j2 (by omega) h1
       have h3:=hj2.inn (j2-1) (by omega) (by omega)
       rcases anc_comp h2 h3 with h4|h4
       ·by_cases h5:j=q j2
        ·exact absurd (Anc.up (by omega) (by rw[←h5];exact .refl)) (hj2.out h1)
        ·have h6:=(anc_q h4 h5).1
         rw[hq] at h6
         have:=hs.par j2 (by omega) h1
         exact anc_anti hs.par h6 hx2.1 (by omega)
       ·exact absurd (Anc.up (by omega) h4) (hj2.out h1)
     have hcons:chFrom n q x j=j::chFrom n q x j2:=by
      refine asc_ext (asc_filter _ (asc_range _ _)) ?_ (fun i=>?_)
      ·rw[List.pairwise_cons]
       exact⟨fun i hi=>by rw[mem_chFrom] at hi;omega,asc_filter _ (asc_range _ _)⟩
      ·rw[List.mem_cons,mem_chFrom,mem_chFrom]
       constructor
       ·rintro⟨h1,h2,h3⟩
        by_cases h4:i=j
        ·exact .inl h4
        ·refine .inr ⟨Classical.byContradiction fun h=>?_,h2,h3⟩
         have h5:=(anc_q (hj2.inn i (by omega) (by omega)) h4).1
         rw[h3] at h5
         have:=anc_le hs.par h5 hx
         omega
       ·rintro(rfl|⟨h1,h2,h3⟩)
        ·exact⟨Nat.le_refl _,hjn,hq⟩
        ·exact⟨by omega,h2,h3⟩
     rw[hcons,List.flatMap_cons,ih j j2 (by omega) hjn hj2,ihd (e-j2) (by omega) j2 rfl (by omega) hj2e hor2]
     have h9:= @List.range'_append_1 j (j2-j) (e-j2)
     rw[show j+(j2-j)=j2 by omega] at h9
     rw[h9];congr 1;omega
  rw[walkF,hC]
  have hstart:x+1=e∨q (x+1)=x:=by
   by_cases h:x+1=e
   ·exact .inl h
   ·refine .inr ?_
    have h1:x+1<e:=by have:=he.lo;omega
    have h2:x+1<n:=by have:=he.hi;omega
    have h3:=(anc_q (he.inn (x+1) (by omega) h1) (by omega)).1
    have h4:=hs.par (x+1) (by omega) h2
    have h5:=anc_le hs.par h3 (by omega)
    omega
  have lo:=he.lo
  rw[key _ (x+1) rfl (by omega) (by omega) hstart]
  rw[show e-x=(e-(x+1))+1 by omega,List.range'_succ]
theorem walk_allW{n:Nat}{q:Nat→Nat}{nm:Nat→St}(hs:WShp n q nm)(h0:0<n){f:Nat}(hf:n≤f):walkF n q nm f 0=List.range n:=by
 rw[walk_rangeW hs f 0 n (by omega) h0 ⟨h0,Nat.le_refl _,fun j _ hj=>anc_root hs.par j hj,fun h=>by omega⟩,List.range_eq_range',Nat.sub_zero]
/-! The other way. -/
theorem vle_trans{a b c:St}(h:ltS b a=false)(k:ltS c b=false):ltS c a=false:=by
 cases e:ltS c a with
 |false=>rfl
 |true=>
  rcases vlt_tot a b with q|q|q
  ·rw[vlt_trans e q] at k;cases k
  ·rw[q] at e;rw[e] at k;cases k
  ·rw[q] at h;cases h
theorem vlt_le{a b c:St}(h:ltS a b=true)(k:ltS c b=false):ltS c a=false:=vle_trans (vlt_not h) k
theorem insC_srt{nm:Nat→St}{cs:List Nat}{i:Nat}(h:cs.Pairwise (fun a b=>ltS (nm b) (nm a)=false)):(insC nm cs i).Pairwise (fun a b=>ltS (nm b) (nm a)=false):=by
 unfold insC
 have hcs:cs.takeWhile (fun c=>!ltS (nm i) (nm c))++cs.dropWhile (fun c=>!ltS (nm i) (nm c))=cs:=List.takeWhile_append_dropWhile
 rw[←hcs,List.pairwise_append] at h
 obtain⟨h1,h2,h3⟩:=h
 have ht:∀a∈cs.takeWhile (fun c=>!ltS (nm i) (nm c)),ltS (nm i) (nm a)=false:=fun a ha=>by
  have:=List.all_eq_true.1 (List.all_takeWhile (l:=cs) (p:=fun c=>!ltS (nm i) (nm c))) a ha
  simpa using this
 have hd:∀c∈cs.dropWhile (fun c=>!ltS (nm i) (nm c)),ltS (nm c) (nm i)=false:=by
  cases e:cs.dropWhile (fun c=>!ltS (nm i) (nm c)) with
  |nil=>intro c hc;cases hc
  |cons d l=>
   have hdd:ltS (nm i) (nm d)=true:=by
    have q:=List.head_dropWhile_not (fun c=>!ltS (nm i) (nm c)) (l:=cs) (by rw[e];simp)
    simp only[e,List.head_cons] at q
    simpa using q
   rw[e,List.pairwise_cons] at h2
   intro c hc
   rcases List.mem_cons.1 hc with rfl|hc
   ·exact vlt_not hdd
   ·exact vlt_le hdd (h2.1 c hc)
 rw[List.pairwise_append,List.pairwise_cons]
 refine⟨h1,⟨hd,h2⟩,fun a ha b hb=>?_⟩
 rcases List.mem_cons.1 hb with rfl|hb
 ·exact ht a ha
 ·exact h3 a ha b hb
theorem chl_srt{q:Nat→Nat}{nm:Nat→St}{x:Nat}:∀m,(chl q nm x m).Pairwise (fun a b=>ltS (nm b) (nm a)=false)
 |0=>by simp[chl]
 |m+1=>by
  rw[chl]
  split
  ·exact insC_srt (chl_srt m)
  ·exact chl_srt m
theorem walkF_anc{n:Nat}{q:Nat→Nat}{nm:Nat→St}:∀f x j,j∈walkF n q nm f x→Anc q x j
 |0,x,j,h=>by rw[walkF,List.mem_singleton] at h;subst h;exact .refl
 |f+1,x,j,h=>by
  rw[walkF] at h
  rcases List.mem_cons.1 h with rfl|h
  ·exact .refl
  ·obtain⟨c,hc,h⟩:=List.mem_flatMap.1 h
   obtain⟨h1,h2,h3⟩:=(mem_chl n).1 hc
   exact anc_trans (.up (by omega) (by rw[h3];exact .refl)) (walkF_anc f c j h)
theorem walkF_head(n:Nat)(q:Nat→Nat)(nm:Nat→St)(f x:Nat):∃t,walkF n q nm f x=x::t:=by
 cases f with
 |zero=>exact⟨[],rfl⟩
 |succ f=>exact⟨_,rfl⟩
theorem flat_seg{g:Nat→List Nat}(hg:∀c,∃t,g c=c::t):∀(cs:List Nat) (s m:Nat),cs.flatMap g=List.range' s m→(∀c∈cs,g c=List.range' c (g c).length∧s≤c∧c<s+m)∧cs.Pairwise (·< ·)
 | [],s,m,_=>⟨fun c hc=>(by cases hc),List.Pairwise.nil⟩
 |c::cs,s,m,h=>by
  rw[List.flatMap_cons] at h
  obtain⟨t,ht⟩:=hg c
  have hk:(g c).length≤m:=by
   have:=congrArg List.length h
   rw[List.length_append,List.length_range'] at this
   omega
  obtain⟨k,hk2⟩:∃k,(g c).length=k:=⟨_,rfl⟩
  rw[hk2] at hk
  have e:= @List.range'_append_1 s k (m-k)
  rw[show k+(m-k)=m by omega] at e
  rw[←e] at h
  obtain⟨h1,h2⟩:=List.append_inj h (by rw[hk2,List.length_range'])
  have hc:c=s:=by
   rw[ht] at h1 hk2
   cases k with
   |zero=>simp at hk2
   |succ k=>rw[List.range'_succ] at h1;exact(List.cons.inj h1).1
  subst hc
  have k0:0<k:=by rw[←hk2,ht];simp
  obtain⟨i1,i2⟩:=flat_seg hg cs _ _ h2
  refine⟨fun b hb=>?_,List.pairwise_cons.2 ⟨fun b hb=>by have:=(i1 b hb).2.1;omega,i2⟩⟩
  rcases List.mem_cons.1 hb with rfl|hb
  ·exact⟨by rw[hk2];exact h1,Nat.le_refl _,by omega⟩
  ·obtain⟨j1,j2,j3⟩:=i1 b hb
   exact⟨j1,by omega,by omega⟩
theorem walk_seg{n:Nat}{q:Nat→Nat}{nm:Nat→St}:∀f x m,n≤f+x→x<n→walkF n q nm f x=List.range' x m→
  (∀j∈walkF n q nm f x,j≠x→Anc q (q j) (j-1))∧∀y∈walkF n q nm f x,(chl q nm y n).Pairwise (·< ·)
 |0,x,m,hf,hx,_=>by omega
 |f+1,x,m,hf,hx,h=>by
  have hall:=h
  rw[walkF] at h
  cases m with
  |zero=>simp at h
  |succ m=>
   rw[List.range'_succ] at h
   obtain⟨_,h⟩:=List.cons.inj h
   obtain⟨s1,s2⟩:=flat_seg (walkF_head n q nm f) _ _ _ h
   have rcc:=fun c (hc:c∈chl q nm x n)=>walk_seg f c _ (by have:=(s1 c hc).2.1;omega) ((mem_chl n).1 hc).1 (s1 c hc).1
   constructor
   ·intro j hj hne
    have hj2:=hj
    rw[walkF] at hj
    rcases List.mem_cons.1 hj with rfl|hj
    ·exact absurd rfl hne
    ·obtain⟨c,hc,hj⟩:=List.mem_flatMap.1 hj
     by_cases e:j=c
     ·subst e
      obtain⟨c1,c2,c3⟩:=(mem_chl n).1 hc
      rw[c3]
      refine walkF_anc (n:=n) (nm:=nm) (f+1) x _ ?_
      rw[hall,List.mem_range'_1]
      have:=(s1 j hc).2
      omega
     ·exact(rcc c hc).1 j hj e
   ·intro y hy
    rw[walkF] at hy
    rcases List.mem_cons.1 hy with rfl|hy
    ·exact s2
    ·obtain⟨c,hc,hy⟩:=List.mem_flatMap.1 hy
     exact(rcc c hc).2 y hy
theorem walk_iff{n:Nat}{q:Nat→Nat}{nm:Nat→St}(hp:∀i,0<i→i<n→q i<i)(h0:0<n):walkF n q nm n 0=List.range n↔WShp n q nm:=by
 constructor
 ·intro h
  have h2:=h
  rw[List.range_eq_range'] at h2
  obtain⟨s1,s2⟩:=walk_seg n 0 n (by omega) h0 h2
  refine⟨hp,fun i i0 i1=>s1 i (by rw[h];exact List.mem_range.2 i1) (by omega),fun i j i0 ij jn hq=>?_⟩
  have hqj:=hp j (by omega) jn
  have p1:=s2 (q j) (by rw[h];exact List.mem_range.2 (by omega))
  have p2:=chl_srt (q:=q) (nm:=nm) (x:=q j) n
  have m1:i∈chl q nm (q j) n:=(mem_chl n).2 ⟨by omega,by omega,hq⟩
  have m2:j∈chl q nm (q j) n:=(mem_chl n).2 ⟨jn,by omega,rfl⟩
  obtain⟨a,ha,ea⟩:=List.getElem_of_mem m1
  obtain⟨b,hb,eb⟩:=List.getElem_of_mem m2
  rcases Nat.lt_trichotomy a b with c|c|c
  ·have:=List.pairwise_iff_getElem.1 p2 a b ha hb c
   rw[ea,eb] at this
   exact this
  ·subst c;omega
  ·have:=List.pairwise_iff_getElem.1 p1 b a hb ha c
   rw[ea,eb] at this
   omega
 ·exact fun h=>walk_allW h h0 (Nat.le_refl _)
/-! The program's walk. -/
theorem climb_cases{ts:Tr}(hr:(nd ts 0).parent= -1)(hp:∀i,0<i→i<ts.length→(nd ts i).parent=(pq ts i:Int)∧pq ts i<i)(p:Nat):∀f u,u<f→u<ts.length→(Anc (pq ts) p u∧climb ts p f (u:Int)=p)∨(¬Anc (pq ts) p u∧climb ts p f (u:Int)= -1)
 |0,u,h,_=>by omega
 |f+1,u,hf,hu=>by
  rw[climb,if_neg (by omega)]
  by_cases e:u=p
  ·subst e;exact .inl ⟨.refl,by rw[if_pos rfl]⟩
  ·rw[if_neg (by omega)]
   by_cases h0:u=0
   ·subst h0
    right
    have e1:par ts ((0:Nat):Int)= -1:=hr
    rw[e1]
    refine⟨fun h=>?_,by cases f<;>simp[climb]⟩
    cases h with
    |refl=>exact e rfl
    |up h _=>omega
   ·obtain⟨q1,q2⟩:=hp u (by omega) hu
    have e1:par ts (u:Int)=(pq ts u:Int):=by
     unfold Go.Proofs.YtdjhnfopdlgliaaGreat.par
     rw[Int.toNat_natCast]
     exact q1
    rw[e1]
    rcases climb_cases hr hp p f (pq ts u) (by omega) (by omega) with⟨h1,h2⟩|⟨h1,h2⟩
    ·exact .inl ⟨.up (by omega) h1,h2⟩
    ·refine .inr ⟨fun h=>?_,h2⟩
     cases h with
     |refl=>exact e rfl
     |up _ h=>exact h1 h
structure Wk(ts:Tr)(i:Nat):Prop where
 asc:∀j,j<i→ascP (nd ts j).props=true
 ord:∀j,0<j→j<i→Anc (pq ts) (pq ts j) (j-1)
 sib:∀a b,0<a→a<b→b<i→pq ts a=pq ts b→ltS (nmT ts b) (nmT ts a)=false
def LastOf(ts:Tr)(i u:Nat)(s:St):Prop:=(s= []∧∀c,0<c→c<i→pq ts c≠u)∨∃c,0<c∧c<i∧pq ts c=u∧(∀d,c<d→d<i→pq ts d≠u)∧s=nmT ts c
theorem walkN_cases{ts:Tr}(hr:(nd ts 0).parent= -1)(hp:∀i,0<i→i<ts.length→(nd ts i).parent=(pq ts i:Int)∧pq ts i<i):∀i,i≤ts.length→
  (Wk ts i∧∃last,walkN ts i=some last∧last.length=ts.length∧∀u,u<ts.length→LastOf ts i u (last.getD u []))∨(¬Wk ts i∧walkN ts i=none)
 |0,_=>by
  left
  refine⟨⟨fun j h=>by omega,fun j _ h=>by omega,fun a b _ _ h=>by omega⟩,_,rfl,by simp,fun u hu=> .inl ⟨?_,fun c _ h=>by omega⟩⟩
  rw[List.getD_eq_getElem?_getD,List.getElem?_replicate]
  split<;>rfl
 |i+1,hi=>by
  have low:∀{j},j<i→j<i+1:=fun h=>by omega
  rcases walkN_cases hr hp i (by omega) with⟨hw,last,h1,h2,h3⟩|⟨hw,h1⟩
  case inr=>
   right
   exact⟨fun h=>hw ⟨fun j hj=>h.asc j (low hj),fun j h0 hj=>h.ord j h0 (low hj),fun a b h0 ab hb=>h.sib a b h0 ab (low hb)⟩,by rw[walkN,h1]⟩
  case inl=>
   rw[walkN,h1]
   have hn:ts.getD i default=nd ts i:=rfl
   simp only[hn]
   by_cases ha:ascP (nd ts i).props=true
   case neg=>exact .inr ⟨fun h=>ha (h.asc i (by omega)),by rw[if_neg ha]⟩
   rw[if_pos ha]
   have asc2:∀j,j<i+1→ascP (nd ts j).props=true:=fun j hj=>by
    by_cases e:j=i
    ·subst e;exact ha
    ·exact hw.asc j (by omega)
   by_cases h0:i=0
   ·subst h0
    left
    rw[if_pos rfl]
    refine⟨⟨asc2,fun j _ h=>by omega,fun a b _ _ h=>by omega⟩,last,rfl,h2,fun u hu=>?_⟩
    rcases h3 u hu with⟨q,_⟩|⟨c,_,q,_⟩
    ·exact .inl ⟨q,fun c _ h=>by omega⟩
    ·omega
   rw[if_neg h0]
   obtain⟨p1,p2⟩:=hp i (by omega) (by omega)
   rw[p1,show((i:Int)-1)=((i-1:Nat):Int) by omega]
   rcases climb_cases hr hp (pq ts i) i (i-1) (by omega) (by omega) with⟨c1,c2⟩|⟨c1,c2⟩
   case inr=>
    right
    rw[c2]
    exact⟨fun h=>c1 (h.ord i (by omega) (by omega)),by rw[if_pos (by decide)]⟩
   rw[c2,if_neg (by omega),Int.toNat_natCast]
   have ord2:∀j,0<j→j<i+1→Anc (pq ts) (pq ts j) (j-1):=fun j h0 hj=>by
    by_cases e:j=i
    ·subst e;exact c1
    ·exact hw.ord j h0 (by omega)
   by_cases hl:ltS (nd ts i).name (last.getD (pq ts i) [])=true
   ·right
    rw[if_pos hl]
    refine⟨fun h=>?_,rfl⟩
    rcases h3 (pq ts i) (by omega) with⟨q,_⟩|⟨c,q1,q2,q3,_,q5⟩
    ·rw[q] at hl
     unfold ltS at hl
     revert hl
     cases (nd ts i).name<;>simp[Op.bytesLess]
    ·rw[q5] at hl
     have:=h.sib c i q1 q2 (by omega) q3
     rw[show nmT ts i=(nd ts i).name from rfl,hl] at this
     cases this
   ·left
    rw[if_neg hl]
    rw[Bool.not_eq_true] at hl
    refine⟨⟨asc2,ord2,fun a b a0 ab hb hq=>?_⟩,_,rfl,by rw[List.length_set,h2],fun u hu=>?_⟩
    ·by_cases e:b=i
     ·subst e
      rcases h3 (pq ts b) (by omega) with⟨_,q⟩|⟨c,q1,q2,q3,q4,q5⟩
      ·exact absurd hq (q a a0 ab)
      ·rw[q5] at hl
       have hl:ltS (nmT ts b) (nmT ts c)=false:=hl
       rcases Nat.lt_trichotomy a c with x|x|x
       ·exact vle_trans (hw.sib a c a0 x q2 (by rw[hq,q3])) hl
       ·subst x;exact hl
       ·exact absurd hq (q4 a x ab)
     ·exact hw.sib a b a0 ab (by omega) hq
    ·by_cases e:u=pq ts i
     ·subst e
      refine .inr ⟨i,by omega,by omega,rfl,fun d h1 h2=>by omega,?_⟩
      rw[List.getD_eq_getElem?_getD,List.getElem?_set_self (by rw[h2];omega)]
      rfl
     ·rw[List.getD_eq_getElem?_getD,List.getElem?_set_ne (by omega),←List.getD_eq_getElem?_getD]
      rcases h3 u hu with⟨q1,q2⟩|⟨c,q1,q2,q3,q4,q5⟩
      ·refine .inl ⟨q1,fun c c0 hc=>?_⟩
       by_cases e2:c=i
       ·subst e2;exact fun e3=>e e3.symm
       ·exact q2 c c0 (by omega)
      ·refine .inr ⟨c,q1,by omega,q3,fun d d1 d2=>?_,q5⟩
       by_cases e2:d=i
       ·subst e2;exact fun e3=>e e3.symm
       ·exact q4 d d1 (by omega)
theorem walk_same{ts:Tr}(h0:0<ts.length)(hr:(nd ts 0).parent= -1)(hp:∀i,0<i→i<ts.length→(nd ts i).parent=(pq ts i:Int)∧pq ts i<i):
  (walkN ts ts.length).isSome=true↔(walkF ts.length (pq ts) (nmT ts) ts.length 0=List.range ts.length∧∀j,j<ts.length→ascP (nd ts j).props=true):=by
 rw[walk_iff (fun i a b=>(hp i a b).2) h0]
 rcases walkN_cases hr hp ts.length (Nat.le_refl _) with⟨hw,last,h1,_⟩|⟨hw,h1⟩
 ·rw[h1]
  exact⟨fun _=>⟨⟨fun i a b=>(hp i a b).2,hw.ord,hw.sib⟩,hw.asc⟩,fun _=>rfl⟩
 ·rw[h1]
  exact⟨fun h=>by simp at h,fun h=>absurd ⟨h.2,h.1.ord,h.1.sib⟩ hw⟩
def cutP(p:Prp):Prp:=⟨p.name,if p.val.length≤256 then p.val else []⟩
def cutN(n:Nod):Nod:={n with props:=n.props.map cutP}
def cutT(ts:Tr):Tr:=ts.map cutN
theorem cut_nd(ts:Tr)(k:Nat):nd (cutT ts) k=cutN (nd ts k):=by
 unfold nd cutT
 rw[List.getD_eq_getElem?_getD,List.getD_eq_getElem?_getD,List.getElem?_map]
 cases ts[k]? with
 |none=>rfl
 |some n=>rfl
theorem cut_len(ts:Tr):(cutT ts).length=ts.length:=by unfold cutT;rw[List.length_map]
theorem cut_set(ts:Tr)(k:Nat)(ps:List Prp):cutT (setN ts k ps)=setN (cutT ts) k (ps.map cutP):=by
 unfold setN
 rw[cut_nd]
 unfold cutT
 rw[List.map_set]
 rfl
theorem cut_put:∀(l:List Prp) (p:Prp),(putP l p).map cutP=putP (l.map cutP) (cutP p)
 | [],p=>rfl
 |y::l,p=>by
  rw[List.map_cons,putP_cons,putP_cons]
  have e1:(cutP y).name=y.name:=rfl
  have e2:(cutP p).name=p.name:=rfl
  rw[e1,e2]
  split
  ·rw[List.map_cons,cut_put l p]
  ·split<;>rfl
theorem cut_small{p:Prp}(h:p.val.length≤256):cutP p=p:=by unfold cutP;rw[if_pos h]
theorem cutP_len(p:Prp):(cutP p).val.length≤256:=by
 unfold cutP
 dsimp only
 split
 ·assumption
 ·simp
structure VL(ts:Tr):Prop where
 v:VT (cutT ts)
 len:∀n∈ts,∀p∈n.props,p.val.length≤4096
theorem cutT_id{ts:Tr}(h:∀n∈ts,∀p∈n.props,p.val.length≤256):cutT ts=ts:=by
 unfold cutT
 conv=>rhs;rw[←List.map_id ts]
 apply List.map_congr_left
 intro n hn
 unfold cutN
 have:n.props.map cutP=n.props:=by
  conv=>rhs;rw[←List.map_id n.props]
  apply List.map_congr_left
  intro p hp
  exact cut_small (h n hn p hp)
 rw[this]
 rfl
theorem VT.vals{ts:Tr}(h:VT ts):∀n∈ts,∀p∈n.props,p.val.length≤256:=fun n hn p hp=>by
 obtain⟨k,hk,rfl⟩:=List.getElem_of_mem hn
 have q:=(h.prp k hk).mem
 rw[nd_get hk] at q
 exact(q p hp).2
theorem VL.of{ts:Tr}(h:VT ts):VL ts:=⟨by rw[cutT_id h.vals];exact h,fun n hn p hp=>by have:=h.vals n hn p hp;omega⟩
theorem VL.pos{ts:Tr}(h:VL ts):0<ts.length:=by have:=h.v.pos;rwa [cut_len] at this
theorem VL.few{ts:Tr}(h:VL ts):ts.length≤120:=by have:=h.v.few;rwa [cut_len] at this
theorem VL.asc{ts:Tr}(h:VL ts){k:Nat}(hk:k<ts.length):(nd ts k).props.length≤12∧∀p∈(nd ts k).props,p.name.length≤31:=by
 have q:=h.v.prp k (by rw[cut_len];exact hk)
 rw[cut_nd] at q
 have e:(cutN (nd ts k)).props=(nd ts k).props.map cutP:=rfl
 rw[e] at q
 refine⟨by have:=q.len;rwa [List.length_map] at this,fun p hp=>?_⟩
 exact(q.prop (cutP p) (List.mem_map_of_mem hp)).2
theorem VL.vals{ts:Tr}(h:VL ts){k:Nat}(hk:k<ts.length):∀p∈(nd ts k).props,p.val.length≤4096:=fun p hp=>h.len (nd ts k) (by rw[nd_get hk];exact List.getElem_mem hk) p hp
theorem VL.set{ts:Tr}(h:VL ts){k:Nat}(hk:k<ts.length){ps:List Prp}(hp:PV (ps.map cutP))(hl:∀p∈ps,p.val.length≤4096):VL (setN ts k ps):=by
 refine⟨by rw[cut_set];exact VT_set h.v (by rw[cut_len];exact hk) hp,fun n hn=>?_⟩
 unfold setN at hn
 rcases List.mem_or_eq_of_mem_set hn with q|q
 ·exact h.len n q
 ·subst q;exact hl
theorem VL.pv{ts:Tr}(h:VL ts){k:Nat}(hk:k<ts.length):PV ((nd ts k).props.map cutP):=by
 have q:=h.v.prp k (by rw[cut_len];exact hk)
 rw[cut_nd] at q
 exact q
theorem VL.put{ts:Tr}(h:VL ts){k:Nat}(hk:k<ts.length){nm val:St}(hn:nm∈namesV)(hv:val.length≤4096):VL (setN ts k (putP (nd ts k).props ⟨nm,val⟩)):=by
 refine h.set hk ?_ (fun p hp=>?_)
 ·rw[cut_put]
  exact PV_put (h.pv hk) hn (cutP_len _)
 ·rcases mem_putP hp with q|q
  ·subst q;exact hv
  ·exact h.vals hk p q
theorem VL.fil{ts:Tr}(h:VL ts){k:Nat}(hk:k<ts.length)(f:St→Bool):VL (setN ts k ((nd ts k).props.filter (fun p=>f p.name))):=by
 refine h.set hk ?_ (fun p hp=>h.vals hk p (List.mem_filter.1 hp).1)
 have e:((nd ts k).props.filter (fun p=>f p.name)).map cutP=((nd ts k).props.map cutP).filter (fun p=>f p.name):=by
  rw[List.filter_map]
  rfl
 rw[e]
 have q:=h.pv hk
 exact⟨q.asc.sublist List.filter_sublist,fun p hp=>q.mem p (List.mem_filter.1 hp).1⟩
theorem VL.sm{ts:Tr}(h:VL ts){k:Nat}(hk:k<ts.length): -1≤(nd ts k).parent∧(nd ts k).parent≤1000∧(nd ts k).name.length≤1000:=by
 have e1:(nd (cutT ts) k).parent=(nd ts k).parent:=by rw[cut_nd];rfl
 have e2:(nd (cutT ts) k).name=(nd ts k).name:=by rw[cut_nd];rfl
 by_cases h0:k=0
 ·subst h0
  have:=h.v.root
  rw[e1,e2] at this
  rw[this.1,this.2]
  simp
 ·have hk2:k<(cutT ts).length:=by rw[cut_len];exact hk
  have p1:=h.v.par (show 0<k by omega) hk2
  have p2:=h.v.shp.par k (by omega) hk2
  have p3:=(h.v.name (show 0<k by omega) hk2).2
  have p4:=h.few
  unfold nmT at p3
  rw[e2] at p3
  rw[e1] at p1
  omega
end Go.Proofs.YtdjhnfopdlgliaaGreat
