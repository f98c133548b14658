/- Lemmas and contracts for the proof of PointAlone (several texts in one, printed by wip/tools/pack.py): Kp Kq SbA QaV Kw La RvC Lb. -/
import Derived.Test.YtlmhkjdkcoiioaaGreatDoorAl8pn
import Derived.Test.YtlmhkjdkcoiioaaGreatDoorAl8pi
import Derived.RangeFuncBox
import Derived.Test.YtlmhkjdkcoiioaaGreatDoorAl8pb
import Derived.Deep.LoopGhost
import Derived.Test.YtlmhkjdkcoiioaaGreatDoorAl8pk
import Derived.Test.YtlmhkjdkcoiioaaGreatDoorAl8pm
import Derived.Test.YtlmhkjdkcoiioaaGreatDoorAl8pe
import Derived.Test.YtlmhkjdkcoiioaaGreatDoorAl8pf
import Derived.Test.YtlmhkjdkcoiioaaGreatDoorAl8pj
import Derived.Laws.OwnMore
set_option maxRecDepth 100000
set_option maxHeartbeats 16000000
set_option linter.unusedVariables false
set_option linter.unusedSimpArgs false
namespace Go.Proofs.YtlmhkjdkcoiioaaGreatDoor
open Go.RowKit
open Classical
def nQ(p:Int×Int):List Value:= [.int .i64 1,.int .i64 p.1,.int .i64 p.2]
def LY(l:List Clk):Option (List Int)->Int
 |some s=>num l s
 |none=> -1
abbrev PS:=Option (List Int)×List (Int×Int)
noncomputable def mi(D:List Int->Option Int)(h:List Int)(st:PS)(t:Nbr):PS:=if st.1.isNone=true/\dz D t.2.2=dz D h-1 then(some t.2.2,st.2++ [(t.1,t.2.1)]) else st
theorem Oz(D:List Int->Option Int)(h s:List Int)(ws:List (Int×Int))(ts:List Nbr):ts.foldl (mi D h) (some s,ws)=(some s,ws):=by
 induction ts with
 |nil=>rfl
 |cons t ts ih=>
  have:mi D h (some s,ws) t=(some s,ws):=by unfold mi;rw[if_neg (by simp)]
  rw[List.foldl_cons,this,ih]
theorem pfold(D:List Int->Option Int)(h:List Int)(ws:List (Int×Int))(ts:List Nbr):ts.foldl (mi D h) (none,ws)=match ts.find? (fun t=>decide (dz D t.2.2=dz D h-1)) with|some t=>(some t.2.2,ws++ [(t.1,t.2.1)])|none=>(none,ws):=by
 induction ts with
 |nil=>rfl
 |cons t ts ih=>
  rw[List.foldl_cons,List.find?_cons];by_cases e:dz D t.2.2=dz D h-1
  ·have:mi D h (none,ws) t=(some t.2.2,ws++ [(t.1,t.2.1)]):=by unfold mi;rw[if_pos ⟨rfl,e⟩]
   rw[this,Oz,dtx e]
  have:mi D h (none,ws) t=(none,ws):=by unfold mi;rw[if_neg (fun q=>e q.2)]
  rw[this,ih,dfx e]
structure PSt(l:List Clk)(base BN BL BH BO BM:Nat)(h:List Int)(V:List (List Int×Int))(st:PS)(w:World)(L:List Nat):Prop where
 next:Row w BN 3 [.int .i64 (LY l st.1)]
 left:Row w BL 161 [.map (some BM)]
 map:xx w BM (V.map fun q=>(num l q.1,q.2))
 here:Row w BH 3 [.int .i64 (num l h)]
 out:∃v,Row w BO 36 [v]/\w.ownsRow base 42 3 v st.2.length (st.2.flatMap nQ)/\∀g,v.ownBlock=some g->g∉L
 off:BN∉L/\BL∉L/\BH∉L/\BO∉L/\BM∉L
 ok:∀q∈V,aI l q.1/\0<=q.2/\q.2<4096
 nok:∀s,st.1=some s->aI l s
 hok:aI l h
 len:st.2.length<=5000/\(st.1=none->st.2.length<5000)
 low:base<=BN/\base<=BL/\base<=BH/\base<=BO/\base<=BM
 ne:BN≠BH
theorem Td(l:List Clk)(base BN BL BH BO BM:Nat)(h:List Int)(V:List (List Int×Int)):tH (PSt l base BN BL BH BO BM h V) where
 keep:=by
  intro st w w' L row q hg fe;obtain⟨v,r1,r2,r3⟩:=q.out;have bS:∀b,b∉L->some b≠row:=fun b hb e=>hb (fe b e.symm);refine⟨q.next.grown hg (bS _ q.off.1),q.left.grown hg (bS _ q.off.2.1),q.map.kept hg (bS _ q.off.2.2.2.2),q.here.grown hg (bS _ q.off.2.2.1),⟨v,r1.grown hg (bS _ q.off.2.2.2.1),r2.kept hg ?_,r3⟩,q.off,q.ok,q.nok,q.hok,q.len,q.low,q.ne⟩;cases hv:v.ownBlock with
  |none=>exact .inl rfl
  |some g=>exact .inr (bS _ (r3 g hv))
 sub:=by intro st w L L' q hs;obtain⟨v,r1,r2,r3⟩:=q.out;exact⟨q.next,q.left,q.map,q.here,⟨v,r1,r2,fun g hg hm=>r3 g hg (hs g hm)⟩,⟨fun m=>q.off.1 (hs _ m),fun m=>q.off.2.1 (hs _ m),fun m=>q.off.2.2.1 (hs _ m),fun m=>q.off.2.2.2.1 (hs _ m),fun m=>q.off.2.2.2.2 (hs _ m)⟩,q.ok,q.nok,q.hok,q.len,q.low,q.ne⟩
theorem Vu:(Tryz.prog.info? 42).map (fun i=>(i.zero,i.size,i.bytes))=some (some (.agg #[.int .i64 0,.int .i64 0,.int .i64 0]),3,24):=by kernel_rfl
theorem QN(l:List Clk)(cal:List Int->Bool)(BN BL BH BO BM:Nat)(h:List Int)(V:List (List Int×Int))(w0:World)(hc:bA l=0)(aZ:aI l h):
  RP (PSt l w0.heap.size BN BL BH BO BM h V) (mi (ba V) h) l cal h BN BL BH BO w0:=by
 intro t st w L ht hg dU hL;obtain⟨nx,ws⟩:=st;have Ff:=(PQ ht aZ).1;have Fz:=m8 hc Ff;have hwh:=m8 hc aZ;obtain⟨w1,qy⟩:∃w1:World,Hid (w1=w.alloc (.cells #[.int .i64 1,.int .i64 t.1,.int .i64 t.2.1] 42)):=⟨_,aa rfl⟩;have G1:Hid (Gr w w1):=aa (by rw[qy.out];exact(gfl _).alloc _);have pk:=Td l w0.heap.size BN BL BH BO BM h V;have S1:Hid (PSt l w0.heap.size BN BL BH BO BM h V (nx,ws) w1 L):=aa (pk.keep _ _ _ _ none dU (G1.out.by none) (fun b e=>by cases e));have LK1:=se S1.out.map Fz;have LK2:=se S1.out.map hwh;rw[pS (fun q hq=>(dU.ok q hq).1) Ff] at LK1;rw[pS (fun q hq=>(dU.ok q hq).1) aZ] at LK2;have b1:0<=dz (ba V) t.2.2/\dz (ba V) t.2.2<4096:=by
  unfold dz;cases e:ba V t.2.2 with
  |none=>simp
  |some x=>have:=(dU.ok _ (fZ e)).2;simpa using this
 have b2:0<=dz (ba V) h/\dz (ba V) h<4096:=by
  unfold dz;cases e:ba V h with
  |none=>simp
  |some x=>have:=(dU.ok _ (fZ e)).2;simpa using this
 change (Instr.lookup _ _ _ _).run Tryz.prog w1= .ok (.int .i64 (dz (ba V) t.2.2)) w1 at LK1
 change (Instr.lookup _ _ _ _).run Tryz.prog w1= .ok (.int .i64 (dz (ba V) h)) w1 at LK2
 have n0:=dU.next.cell 0 (by simp);have l0:=dU.left.cell 0 (by simp);have h0:=dU.here.cell 0 (by simp);have nh:=dU.next.has;have lh:=dU.left.has;have hh:=dU.here.has;have nf:=dU.next.free 0;simp only[List.getElem_cons_zero] at n0 l0 h0;have HG:=aa hg;have HLs:=aa hL;have TO:=aa Ff;have HS:=aa dU;have HC:=aa hc;rw[qy.out] at LK1 LK2;obtain⟨x,ex⟩:∃x,dz (ba V) t.2.2=x:=⟨_,rfl⟩;obtain⟨y,ey⟩:∃y,dz (ba V) h=y:=⟨_,rfl⟩;rw[ex] at LK1 b1;rw[ey] at LK2 b2;have EX:=aa ex;have EY:=aa ey;obtain⟨m,hm⟩:∃m,num l h=m:=⟨_,rfl⟩;rw[hm] at LK2 h0;obtain⟨n,hn⟩:∃n,num l t.2.2=n:=⟨_,rfl⟩;have HN:=aa hn;have HM:=aa hm;rw[hn] at LK1 ⊢;clear dU Ff Fz hwh hL hg ex ey hm hn pk hc;cases nx with
 |some s=>
  have Hs:=Hg HC.out (HS.out.nok s rfl);simp only[LY] at n0;obtain⟨k,hk⟩:∃k,num l s=k:=⟨_,rfl⟩;rw[hk] at n0 Hs;have hA:mi (ba V) h (some s,ws) t=(some s,ws):=by unfold mi;rw[if_neg (by simp)]
  have HA:=aa hA;clear hA hk;go_enter Tryz.func119,Tryz.ntmps119;go_wp2_with fail;go_end0;rw[<-qy.out];exact⟨rfl,by rw[HA.out];exact S1.out,HG.out.trans G1.out,fun b hb=>G1.out.below.block b (HLs.out b hb),G1.out.size⟩
 |none=>
  simp only[LY] at n0;by_cases Ie:x=y-1
  ·have hA:mi (ba V) h (none,ws) t=(some t.2.2,ws++ [(t.1,t.2.1)]):=by unfold mi;rw[if_pos ⟨rfl,by rw[EX.out,EY.out];exact Ie⟩]
   have HA:=aa hA;have bb:(x==y-1)=true:=by simp[Ie]
   clear hA Ie;obtain⟨v,r1,r2,r3⟩:=HS.out.out;obtain⟨a,c,rfl⟩:=be r2;obtain⟨j0,hj,kN,ka,lg⟩:=info_parts Vu;have nNO:BN≠BO:=HS.out.next.s.apart r1.s (by decide);have nNL:BN≠BL:=HS.out.next.s.apart HS.out.left.s (by decide);have nNM:BM≠BN:=HS.out.map.ne_row HS.out.next;have nMO:BM≠BO:=HS.out.map.ne_row r1;have nLO:BL≠BO:=HS.out.left.s.apart r1.s (by decide);have nHO:BH≠BO:=HS.out.here.s.apart r1.s (by decide);have oth:∀g,(Value.slice a ws.length c).ownBlock=some g->g≠BN/\g≠BL/\g≠BH/\g≠BO/\g≠BM:=fun g hg=>by
    have e1:=aJ r2 HS.out.next.s (by decide);have e2:=aJ r2 HS.out.left.s (by decide);have e3:=aJ r2 HS.out.here.s (by decide);have e4:=aJ r2 r1.s (by decide);rw[hg] at e1 e2 e3 e4;refine⟨fun e=>e1 (by rw[e]),fun e=>e2 (by rw[e]),fun e=>e3 (by rw[e]),fun e=>e4 (by rw[e]),fun e=>?_⟩;subst e;obtain⟨_,⟨e,_⟩|⟨g',cap,cur,e,_,oq,_⟩⟩:=r2
    ·rw[e] at hg;cases hg
    have:g'=g:=(by rw[e] at hg;simpa [Value.ownBlock] using hg);subst this;obtain⟨D,⟨es,clock,h0,_⟩,_⟩:=HS.out.map;rw[h0] at oq;cases oq
   have OT:=aa oth;have RL:=aa r3;have bo:=aa r1.has;obtain⟨W2,hW2⟩:∃W2:World,Hid (W2=(w.setCell ⟨BN,0,none⟩ (.int .i64 n)).alloc (.cells #[.int .i64 1,.int .i64 t.1,.int .i64 t.2.1] 42)):=⟨_,aa rfl⟩;have z2:Hid (W2.heap.size=w.heap.size+1):=aa (by rw[hW2.out];simp[bQ]);have Og:Hid (w.grownBy W2 (some BN)):=aa (by rw[hW2.out];exact(cA w BN 0 _).trans (World.grownBy_alloc _ _ _));have R2:Hid (Row W2 BO 36 [.slice a ws.length c]):=aa (r1.grown Og.out (fun e=>nNO (Option.some.inj e).symm));have O2:Hid (W2.ownsRow w0.heap.size 42 3 (.slice a ws.length c) ws.length (ws.flatMap nQ)):=aa (r2.kept Og.out (by
    cases hv:(Value.slice a ws.length c).ownBlock with
    |none=>exact .inl rfl
    |some g=>exact .inr (fun e=>(oth g hv).1 (Option.some.inj e))))
   have N2:Hid (Row W2 BN 3 [.int .i64 n]):=aa (by rw[hW2.out];exact(HS.out.next.set 0 _).alloc _);obtain⟨W3,hW3⟩:∃W3:World,Hid (W3=W2.alloc (.cells #[.int .i64 1,.int .i64 t.1,.int .i64 t.2.1] 42)):=⟨_,aa rfl⟩;have I0:Hid (Gr W2 W3):=aa (by rw[hW3.out];exact(gfl _).alloc _);have z3:Hid (W3.heap.size=w.heap.size+2):=aa (by rw[hW3.out];simp;have:=z2.out;omega);have C3:Hid (∀j u,(nQ (t.1,t.2.1))[j]?=some u->W3.cell? ((⟨w.heap.size+1,0,none⟩:Addr).add j)=some u):=aa (by rw[hW3.out];exact fY (sZ W2 _ _ _ z2.out.symm))
   have O3:=aa (Gr.owns O2.out I0.out);have R3:=aa (R2.out.gr I0.out);have one:Hid (∀u∈nQ (t.1,t.2.1),u.oneCell'=true):=aa (by intro u hu;simp only[nQ,List.mem_cons,List.not_mem_nil,or_false] at hu;rcases hu with rfl|rfl|rfl<;>rfl)
   have LEN:=aa (HS.out.len.2 rfl);have base:Hid (w0.heap.size<=W3.heap.size):=aa (by have:=z3.out;have:=HG.out.size;omega);have NE:=aa (show BN≠BO/\BN≠BL/\BM≠BN/\BM≠BO/\BL≠BO/\BH≠BO from⟨nNO,nNL,nNM,nMO,nLO,nHO⟩);have o0:=r1.cell 0 (by simp);have oh:=r1.has;simp only[List.getElem_cons_zero] at o0;rw[hW3.out,hW2.out] at O3 C3 base;have o2:(w.setCell ⟨BN,0,none⟩ (.int .i64 n)).cell? ⟨BO,0,none⟩=some (.slice a ws.length c):=by have:=(r1.oth (b:=BN) (o:=0) (v:= .int .i64 n) nNO).cell 0 (by simp);simpa using this
   have n1:¬(BO=BN):=fun e=>nNO e.symm;have n2:¬(BN=BO):=nNO;clear r1 r2 r3 nNO nNL nNM nMO nLO nHO oth;go_enter Tryz.func119,Tryz.ntmps119;go_wp2_with (first
    |(at_builtin;refine wpList_append_own_at _ rfl _ _ 36 rfl w0.heap.size 42 j0 (.agg #[.int .i64 0,.int .i64 0,.int .i64 0]) 3 24 Tryz.underlying36 hj kN ka lg rfl (by decide) (.slice a ws.length c) ws.length (ws.flatMap nQ) rfl O3.out ⟨w.heap.size+1,0,none⟩ 1 1 (nQ (t.1,t.2.1)) rfl rfl C3.out one.out (by have:=LEN.out;unfold maxLen;simp only at this;omega) (by have:=LEN.out;simp only at this;omega) base.out ?_;intro v' W4 aV aE eJ yX;obtain⟨a',c',rfl⟩:=be aV;rw[<-hW2.out,<-hW3.out] at aE yX;have R4:=aa (R3.out.grown aE (fun e=>(OT.out BO e.symm).2.2.2.1 rfl));have q4:=R4.out.cell 0 (by simp);have f4:=R4.out.free 0;have h4:=R4.out.has;simp only[List.getElem_cons_zero] at q4;have OW4:=aa aV;have G4:=aa aE;have LO4:=aa yX;clear aV aE yX eJ)
    |fail)
   go_end0;obtain⟨nv,rV⟩:∃nv,nv=Value.slice a' (ws.length+1) c':=⟨_,rfl⟩;rw[<-rV] at OW4 LO4 ⊢;obtain⟨ov,hov⟩:∃ov,ov=Value.slice a ws.length c:=⟨_,rfl⟩;rw[<-hov] at OT RL G4 LO4;have hbo:=bo.out;unfold Has at hbo;have z3':=z3.out;have notown:∀b,(∀g,ov.ownBlock=some g->g≠b)->some b≠ov.ownBlock:=fun b h e=>h b e.symm rfl;have kept4:∀{B T:Nat} {vs:List Value},Row w B T vs->B≠BN->(∀g,ov.ownBlock=some g->g≠B)->B≠BO->Row (W4.setCell ⟨BO,0,none⟩ nv) B T vs:=fun r h1 h2 h3=>(((r.grown Og.out (fun e=>h1 (Option.some.inj e))).gr I0.out).grown G4.out (notown _ h2)).oth (Ne.symm h3)
   have g4:Gr w0 W4:=by have h3:=(HG.out.grown Og.out (fun k e=>by injection e with e;subst e;exact HS.out.low.1)).trans I0.out;refine h3.grown G4.out (fun k e=>?_);have aA:=O2.out.lt;rw[<-hov] at aA;exact(aA k e).1
   refine⟨rfl,?_,g4.setc HS.out.low.2.2.2.1,?_,?_⟩
   ·rw[HA.out];refine⟨?_,kept4 HS.out.left (Ne.symm NE.out.2.1) (fun g hg=>(OT.out g hg).2.1) NE.out.2.2.2.2.1,?_,kept4 HS.out.here (Ne.symm HS.out.ne) (fun g hg=>(OT.out g hg).2.2.1) NE.out.2.2.2.2.2,⟨nv,R4.out.set 0 _,?_,?_⟩,HS.out.off,HS.out.ok,?_,HS.out.hok,?_,HS.out.low,HS.out.ne⟩
    ·have:=((N2.out.gr I0.out).grown G4.out (notown _ (fun g hg=>(OT.out g hg).1))).oth (b:=BO) (o:=0) (v:=nv) (Ne.symm NE.out.1);simp only[LY,HN.out];exact this
    ·exact(((HS.out.map.kept Og.out (fun e=>NE.out.2.2.1 (Option.some.inj e))).gr I0.out).kept G4.out (notown _ (fun g hg=>(OT.out g hg).2.2.2.2))).kept (cA W4 BO 0 nv) (fun e=>NE.out.2.2.2.1 (Option.some.inj e))
    ·have:=OW4.out.kept (cA W4 BO 0 nv) (by
      cases hv:nv.ownBlock with
      |none=>exact .inl rfl
      |some g=>
       refine .inr (fun e=>?_);have e':g=BO:=Option.some.inj e;rcases LO4.out with q|q
       ·rw[hv] at q;exact(OT.out g q.symm).2.2.2.1 e'
       rw[hv] at q;have:=Option.some.inj q;omega)
     simp only[List.length_append,List.length_cons,List.length_nil,List.flatMap_append,List.flatMap_cons,List.flatMap_nil,List.append_nil,Nat.zero_add];exact this
    ·intro g hg hm;rcases LO4.out with q|q
     ·rw[hg] at q;exact RL.out g q.symm hm
     rw[hg] at q;have:=Option.some.inj q;have:=HLs.out g hm;unfold Has at this;omega
    ·intro s hs;have:t.2.2=s:=Option.some.inj hs;subst this;exact TO.out
    have:=LEN.out;simp only[List.length_append,List.length_cons,List.length_nil];exact⟨by omega,fun q=>by cases q⟩
   ·intro b hb;have hbl:=HLs.out b hb;unfold Has at hbl;have zz:=z2.out;have ZG:=z3.out;have g4s:=G4.out.size;rw[(cA W4 BO 0 nv).block b (by omega) (fun e=>HS.out.off.2.2.2.1 (Option.some.inj e▸hb)),G4.out.block b (by omega) (fun e=>RL.out b e.symm hb),I0.out.below.block b (by omega),Og.out.block b hbl (fun e=>HS.out.off.1 (Option.some.inj e▸hb))]
   have:=G4.out.size;simp only[bQ];omega
  have hA:mi (ba V) h (none,ws) t=(none,ws):=by unfold mi;rw[if_neg (fun q=>Ie (by rw[<-EX.out,<-EY.out];exact q.2))]
  have HA:=aa hA;have bb:(x==y-1)=false:=by simp[Ie]
  clear hA Ie;go_enter Tryz.func119,Tryz.ntmps119;go_wp2_with fail;go_end0;rw[<-qy.out];exact⟨rfl,by rw[HA.out];exact S1.out,HG.out.trans G1.out,fun b hb=>G1.out.below.block b (HLs.out b hb),G1.out.size⟩
structure PB(l:List Clk)(ms:List Lmt)(al am:Option Addr)(cl cm BK XP:Nat)(w0 wr w:World):Prop where
 box:Row w XP 158 [.slice al l.length cl,.slice am ms.length cm,.map (some BK)]
 kn:Kn w BK l (aG l ms)
 gr:Gr w0 w
 size:wr.heap.size<=w.heap.size
theorem PB.grow{l:List Clk}{ms:List Lmt}{al am:Option Addr}{cl cm BK XP:Nat}{w0 wr w w':World}(h:PB l ms al am cl cm BK XP w0 wr w)(hg:Gr w w'):PB l ms al am cl cm BK XP w0 wr w':=
 ⟨h.box.gr hg,h.kn.gr hg,h.gr.trans hg,Nat.le_trans h.size hg.size⟩
def BP(l:List Clk)(ms:List Lmt)(t:List Int)(wr w:World)(BM:Nat)(V:List (List Int×Int)):Prop:=
 wr.heap.size<=BM/\xx w BM (V.map fun q=>(num l q.1,q.2))/\(∀q∈V,aI l q.1/\0<=q.2/\q.2<4096)/\jc l (aG l ms) t (ba V)
theorem BP.gr{l:List Clk}{ms:List Lmt}{t:List Int}{wr w w':World}{BM:Nat}{V:List (List Int×Int)}(h:BP l ms t wr w BM V)(hg:Gr w w'):BP l ms t wr w' BM V:=⟨h.1,h.2.1.gr hg,h.2.2⟩
def pn4F(w0 wr:World)(l:List Clk)(ms:List Lmt)(t:List Int)(al am at':Option Addr)(cl cm ct BK XP:Nat)(il eM fw fg im kz:Value)(d:Array Bool)(w:World):Prop:=
 PB l ms al am cl cm BK XP w0 wr w/\(d.getD 0 false=true->eM= .agg #[.slice al l.length cl,.slice am ms.length cm,.map (some BK)])/\
 (d.getD 1 false=true->fw= .agg #[.slice al l.length cl,.slice am ms.length cm,.map (some BK)])/\
 (d.getD 2 false=true->fg= .slice at' l.length ct)/\
 (d.getD 3 false=true->im= .int .i64 (num l t))/\
 (d.getD 4 false=true->(d.getD 6 false=false->∃BM V,kz= .map (some BM)/\BP l ms t wr w BM V))/\
 (d.getD 5 false=true->(∃BL,il= .pointer (some ⟨BL,0,none⟩)/\wr.heap.size<=BL/\(d.getD 6 false=false->Row w BL 161 [.map none])))/\
 (d.getD 6 false=true->((d.getD 4 false=true/\d.getD 5 false=true)/\∃BL BM V,il= .pointer (some ⟨BL,0,none⟩)/\wr.heap.size<=BL/\Row w BL 161 [.map (some BM)]/\BP l ms t wr w BM V))
def xu(l:List Clk)(at':Option Addr)(ct XP:Nat)(il eM fw fg im kz s0 s1 s3 s4 s5 s6 s7 s8 s9 dR cI cJ dc dg dk di cK de dQ dI eG dB dD dv dC du eH dP dL dE dJ dK dO dM dN eg eY eT eV eF eN fG fH fJ fL gK gi gd eZ:Value):Act:={tmps:= #[s0,s1,.slice at' l.length ct,s3,s4,s5,s6,s7,s8,s9,.pointer (some ⟨XP,0,none⟩),dR,il,cI,cJ,dc,dg,dk,di,cK,de,dQ,dI,eG,dB,dD,dv,dC,du,eH,eM,fw,fg,im,kz,dP,dL,dE,dJ,dK,dO,dM,dN,eg,eY,eT,eV,eF,eN,fG,fH,fJ,fL,gK,gi,gd,eZ],defers:= []}
theorem pn4{Q:Exit->Act->World->Prop}{w0 wr:World}{l:List Clk}{ms:List Lmt}{t:List Int}{al am at':Option Addr}{cl cm ct BK XP:Nat}{s0 s1 s3 s4 s5 s6 s7 s8 s9 dR ei cI cJ dc dg dk di cK de dQ dI eG dB dD dv dC du eH eQ eW eO eI ec dP dL dE dJ dK dO dM dN eg eY eT eV eF eN fG fH fJ fL gK gi gd eZ:Value}(hp:PB l ms al am cl cm BK XP w0 wr wr)(he:Env w0 l ms al am)(aZ:aI l t)(zi:aG l ms t=true)(dU:ag 1 RI w0 at' t)(xK:w0.heap.size<=BK)(hsz0:w0.heap.size<=wr.heap.size)
  (h':∀eM fw fg im kz BL BM V wx,PB l ms al am cl cm BK XP w0 wr wx->wr.heap.size<=BL->Row wx BL 161 [.map (some BM)]->BP l ms t wr wx BM V->Q .normal (xu l at' ct XP (.pointer (some ⟨BL,0,none⟩)) eM fw fg im kz s0 s1 s3 s4 s5 s6 s7 s8 s9 dR cI cJ dc dg dk di cK de dQ dI eG dB dD dv dC du eH dP dL dE dJ dK dO dM dN eg eY eT eV eF eN fG fH fJ fL gK gi gd eZ) wx):
  (Code.region 4 (fr 4 Tryz.f53) true).wp Tryz.prog Q {tmps:= #[s0,s1,.slice at' l.length ct,s3,s4,s5,s6,s7,s8,s9,.pointer (some ⟨XP,0,none⟩),dR,ei,cI,cJ,dc,dg,dk,di,cK,de,dQ,dI,eG,dB,dD,dv,dC,du,eH,eQ,eW,eO,eI,ec,dP,dL,dE,dJ,dK,dO,dM,dN,eg,eY,eT,eV,eF,eN,fG,fH,fJ,fL,gK,gi,gd,eZ],defers:= []} wr:=by
 have HE:=PLift.up he;have HT:=PLift.up aZ;have HC:=PLift.up zi;have ST:=PLift.up dU;have hxk:XP≠BK:=by obtain⟨V9,tW,_⟩:=hp.kn;exact Ne.symm (tW.ne_row hp.box)
 clear he aZ zi dU;simp only[fr,Tryz.f53,gM,Option.bind_some,Option.getD_some,Nat.beq,cond_true,cond_false];refine dW (fun done a w=>∃il eM fw fg im kz,a=xu l at' ct XP il eM fw fg im kz s0 s1 s3 s4 s5 s6 s7 s8 s9 dR cI cJ dc dg dk di cK de dQ dI eG dB dD dv dC du eH dP dL dE dJ dK dO dM dN eg eY eT eV eF eN fG fH fJ fL gK gi gd eZ/\pn4F w0 wr l ms t al am at' cl cm ct BK XP il eM fw fg im kz done w) (by kernel_rfl) (by kernel_rfl) ?_ ⟨?_,?_,?_,?_,?_,?_,?_,trivial⟩ ?_
 ·exact⟨ei,eQ,eW,eO,eI,ec,rfl,hp.grow (gfl _).drew,fun q=>absurd q (by decide),fun q=>absurd q (by decide),fun q=>absurd q (by decide),fun q=>absurd q (by decide),fun q=>absurd q (by decide),fun q=>absurd q (by decide),fun q=>absurd q (by decide)⟩
 rotate_right
 ·rintro done a w aH ⟨il,eM,fw,fg,im,kz,rfl,gw,f0,f1,f2,f3,f4,f5,f6⟩;obtain⟨_,BL,BM,V,rfl,h1,h2,h3⟩:=f6 (aH 6 (by decide));exact h' _ _ _ _ _ BL BM V w gw h1 h2 h3
 all_goals(rintro done a w iB fD aO ⟨il,eM,fw,fg,im,kz,rfl,gw,f0,f1,f2,f3,f4,f5,f6⟩ K hK;have hn:=nd fD;have HK:=PLift.up hK;clear hK)
 ·have r:=gw.box;have c0:=r.cell 0 (by simp);have c1:=r.cell 1 (by simp);have c2:=r.cell 2 (by simp);have ch:=r.has;simp only[List.getElem_cons_zero,List.getElem_cons_succ] at c0 c1 c2;clear r;simp only[xu];go_simp;have gg:=gfl w;refine HK.down _ _ ⟨_,_,_,_,_,_,rfl,gw,fun _=>rfl,kp f1,kp f2,kp f3,fun q q2=>(let⟨BM,V,e,h2⟩:=f4 (aj q (by decide)) (by rw[getD_set_ne false (by decide)] at q2;exact q2);⟨BM,V,e,h2.gr gg⟩),ku f5,ku f6⟩
 ·have r:=gw.box;have c0:=r.cell 0 (by simp);have c1:=r.cell 1 (by simp);have c2:=r.cell 2 (by simp);have ch:=r.has;simp only[List.getElem_cons_zero,List.getElem_cons_succ] at c0 c1 c2;clear r;simp only[xu];go_simp;have gg:=gfl w;refine HK.down _ _ ⟨_,_,_,_,_,_,rfl,gw,kp f0,fun _=>rfl,kp f2,kp f3,fun q q2=>(let⟨BM,V,e,h2⟩:=f4 (aj q (by decide)) (by rw[getD_set_ne false (by decide)] at q2;exact q2);⟨BM,V,e,h2.gr gg⟩),ku f5,ku f6⟩
 ·simp only[xu];go_simp;have gg:=gfl w;refine HK.down _ _ ⟨_,_,_,_,_,_,rfl,gw,kp f0,kp f1,fun _=>rfl,kp f3,fun q q2=>(let⟨BM,V,e,h2⟩:=f4 (aj q (by decide)) (by rw[getD_set_ne false (by decide)] at q2;exact q2);⟨BM,V,e,h2.gr gg⟩),ku f5,ku f6⟩
 ·have d1:=aO 1 (by kernel_rfl);have d2:=aO 2 (by kernel_rfl);obtain rfl:=f1 d1;obtain rfl:=f2 d2;clear d1 d2;simp only[xu];go_simp;have NM:=uj l t al at' am cl ct ms.length cm (.map (some BK)) w (bj HE.down.clks gw.gr) (ST.down.giI gw.gr) HE.down.chk HT.down;rw[HT.down.1] at NM;refine NM.mono ?_;rintro e w2 ⟨rfl,hg⟩;have gg:Gr w w2:=hg;clear hg
  (try go_simp)
  refine HK.down _ _ ⟨_,_,_,_,_,_,rfl,gw.grow gg,kp f0,kp f1,kp f2,fun _=>rfl,fun q q2=>(let⟨BM,V,e,h2⟩:=f4 (aj q (by decide)) (by rw[getD_set_ne false (by decide)] at q2;exact q2);⟨BM,V,e,h2.gr gg⟩),ku f5,ku f6⟩
 ·have d0:=aO 0 (by kernel_rfl);have d3:=aO 3 (by kernel_rfl);obtain rfl:=f0 d0;obtain rfl:=f3 d3;have hL:∃L0:List Nat,(∀b∈L0,Has w b)/\XP∈L0/\BK∈L0/\(done.getD 5 false=true->∀BL,il= .pointer (some ⟨BL,0,none⟩)->BL∈L0):=by
   by_cases q5:done.getD 5 false=true
   ·obtain⟨BL,e,h1,h2⟩:=f5 q5;have n6:done.getD 6 false=false:=by
     cases e6:done.getD 6 false with
     |false=>rfl
     |true=>exact absurd (f6 e6).1.1 hn
    refine⟨[XP,BK,BL],?_,by simp,by simp,fun _ BL' e'=>?_⟩
    ·intro b hb;simp only[List.mem_cons,List.not_mem_nil,or_false] at hb;rcases hb with rfl|rfl|rfl
     ·exact gw.box.has
     ·exact gw.kn.has
     exact(h2 n6).has
    rw[e] at e';cases e'
    simp
   refine⟨[XP,BK],?_,by simp,by simp,fun q=>absurd q q5⟩;intro b hb;simp only[List.mem_cons,List.not_mem_nil,or_false] at hb;rcases hb with rfl|rfl
   ·exact gw.box.has
   exact gw.kn.has
  obtain⟨L0,hL0,hXP,hBK,hBL⟩:=hL;have RC:=PLift.up (Sb l ms t al am cl cm BK L0 w0 w HE.down gw.gr HT.down HC.down gw.kn xK hL0 hBK);have HBL:=PLift.up hBL;have HXP:=PLift.up hXP;clear hL0 hXP hBK hBL;clear d0 d3;simp only[xu];go_simp;refine RC.down.mono ?_;rintro e w2 ⟨BM,V,rfl,r1,r2,r3,r4,r5,r6,r7,r8⟩;have RR:=PLift.up (And.intro r1 (And.intro r2 (And.intro r3 (And.intro r4 (And.intro r5 (And.intro r6 (And.intro r7 r8)))))));clear r1 r2 r3 r4 r5 r6 r7 r8 RC
  (try go_simp)
  obtain⟨r1,r2,r3,r4,r5,r6,r7,r8⟩:=RR.down;refine HK.down _ _ ⟨_,_,_,_,_,_,rfl,(⟨by have:=gw.box;unfold Row at this ⊢;rw[r7 XP HXP.down hxk];exact this,r6,r5,Nat.le_trans gw.size r8⟩:PB l ms al am cl cm BK XP w0 wr w2),kp f0,kp f1,kp f2,kp f3,?_,fun q=>(let⟨BL,e,h1,h2⟩:=f5 (aj q (by decide));⟨BL,e,h1,fun q2=>(by have h3:=h2 (by rw[getD_set_ne false (by decide)] at q2;exact q2);have h4:=HBL.down (aj q (by decide)) BL e;have h5:BL≠BK:=(by obtain⟨V9,tW,_⟩:=gw.kn;exact Ne.symm (tW.ne_row h3));unfold Row at h3 ⊢;rw[r7 BL h4 h5];exact h3)⟩),fun q=>absurd (f6 (aj q (by decide))).1.1 hn⟩;exact fun _ _=>⟨BM,V,rfl,Nat.le_trans gw.size r1,r2,r3,r4⟩
 ·simp only[xu];go_simp;have gg:Gr w (w.alloc (.cells #[.map none] 161)):=(gfl _).alloc _;refine HK.down _ _ ⟨_,_,_,_,_,_,rfl,gw.grow gg,kp f0,kp f1,kp f2,kp f3,fun q q2=>(let⟨BM,V,e,h2⟩:=f4 (aj q (by decide)) (by rw[getD_set_ne false (by decide)] at q2;exact q2);⟨BM,V,e,h2.gr gg⟩),?_,fun q=>absurd (f6 (aj q (by decide))).1.2 hn⟩;exact fun _=>⟨_,rfl,gw.size,fun _=>Row.new w _ _⟩
 have d4:=aO 4 (by kernel_rfl);have d5:=aO 5 (by kernel_rfl);have n6:=getD_both fD;obtain⟨BM,V,rfl,h1⟩:=f4 d4 n6;obtain⟨BL,rfl,h2,h3⟩:=f5 d5;have r:=h3 n6;have c0:=r.cell 0 (by simp);have cf:=r.free 0;have ch:=r.has;simp only[List.getElem_cons_zero] at c0;have R:=PLift.up r;have H1:=PLift.up h1;have nb:BM≠BL:=h1.2.1.ne_row r;have NB:=PLift.up nb;have H2:=PLift.up h2;have NX:PLift (BL≠XP):=PLift.up (r.s.apart gw.box.s (by decide));clear r h1 h3 nb h2;simp only[xu];go_simp;refine HK.down _ _ ⟨_,_,_,_,_,_,rfl,(⟨gw.box.oth NX.down,gw.kn.kept (cA w BL 0 (.map (some BM))) (by obtain⟨V9,tW,_⟩:=gw.kn;exact fun e=>(tW.ne_row R.down) (Option.some.inj e)),gw.gr.setc (Nat.le_trans hsz0 H2.down),by rw[bQ];exact gw.size⟩:PB l ms al am cl cm BK XP w0 wr _),kp f0,kp f1,kp f2,kp f3,fun _ q=>absurd q (by rw[fi (by rw[iB];decide)];decide),fun _=>⟨BL,rfl,H2.down,fun q=>absurd q (by rw[fi (by rw[iB];decide)];decide)⟩,?_⟩;exact fun _=>⟨⟨getD_set_true d4,getD_set_true d5⟩,BL,BM,V,rfl,H2.down,R.down.set 0 _,H1.down.1,H1.down.2.1.kept (cA w BL 0 (.map (some BM))) (fun e=>NB.down (Option.some.inj e)),H1.down.2.2⟩
structure PLS(l:List Clk)(ms:List Lmt)(al am:Option Addr)(cl cm BK XP BL BO BM:Nat)(w:World)(V:List (List Int×Int))(ws:List (Int×Int))(wr:World):Prop where
 box:Row wr XP 158 [.slice al l.length cl,.slice am ms.length cm,.map (some BK)]
 left:Row wr BL 161 [.map (some BM)]
 map:xx wr BM (V.map fun q=>(num l q.1,q.2))
 out:∃v,Row wr BO 36 [v]/\wr.ownsRow w.heap.size 42 3 v ws.length (ws.flatMap nQ)
 kn:Kn wr BK l (aG l ms)
 gr:Gr w wr
 low:w.heap.size<=XP/\w.heap.size<=BL/\w.heap.size<=BO/\w.heap.size<=BM/\w.heap.size<=BK
 ne:BM≠BK
section
variable {l:List Clk} {ms:List Lmt} {al am:Option Addr} {cl cm BK XP BL BO BM:Nat} {w:World} {V:List (List Int×Int)} {ws:List (Int×Int)} {wr:World}
theorem PLS.grow{w':World}(h:PLS l ms al am cl cm BK XP BL BO BM w V ws wr)(hg:Gr wr w'):PLS l ms al am cl cm BK XP BL BO BM w V ws w':=by obtain⟨v,r1,r2⟩:=h.out;exact⟨h.box.gr hg,h.left.gr hg,h.map.gr hg,⟨v,r1.gr hg,Gr.owns r2 hg⟩,h.kn.gr hg,h.gr.trans hg,h.low,h.ne⟩
theorem PLS.start{BN BH:Nat}{x:List Int}(h:PLS l ms al am cl cm BK XP BL BO BM w V ws wr)(hn:Row wr BN 3 [.int .i64 (-1)])(hh:Row wr BH 3 [.int .i64 (num l x)])(bn:w.heap.size<=BN)(bh:w.heap.size<=BH)(ne:BN≠BH)(hx:aI l x)(hV:∀q∈V,aI l q.1/\0<=q.2/\q.2<4096)(gO:ws.length<5000):
  ∀w1 L,Gr wr w1->(∀b∈L,b∈ [XP,BK]∨wr.heap.size<=b)->PSt l w.heap.size BN BL BH BO BM x V (none,ws) w1 L:=by
 intro w1 L hg hb;obtain⟨v,r1,r2⟩:=h.out;have knr:∀{C T:Nat} {vs:List Value},Row wr C T vs->C≠BK:=fun r=>by obtain⟨V',hm,_⟩:=h.kn;exact Ne.symm (hm.ne_row r)
 have nin:∀b,Has wr b->b≠XP->b≠BK->b∉L:=fun b hh h1 h2 hm=>by
  rcases hb b hm with e|e
  ·simp at e;rcases e with e|e
   ·exact h1 e
   exact h2 e
  unfold Has at hh;omega
 refine⟨hn.gr hg,h.left.gr hg,h.map.gr hg,hh.gr hg,⟨v,r1.gr hg,Gr.owns r2 hg,?_⟩,⟨nin _ hn.has (hn.s.apart h.box.s (by decide)) (knr hn),nin _ h.left.has (h.left.s.apart h.box.s (by decide)) (knr h.left),nin _ hh.has (hh.s.apart h.box.s (by decide)) (knr hh),nin _ r1.has (r1.s.apart h.box.s (by decide)) (knr r1),nin _ h.map.has (h.map.ne_row h.box) h.ne⟩,hV,(fun s q=>by cases q),hx,⟨by show ws.length<=5000;omega,fun _=>gO⟩,⟨bn,h.low.2.1,bh,h.low.2.2.1,h.low.2.2.2.1⟩,ne⟩;intro g oq;refine nin g (r2.lt g oq).2 (fun e=>?_) (fun e=>?_)
 ·have:=aJ r2 h.box.s (by decide);rw[oq,e] at this;exact this rfl
 subst e;obtain⟨_,⟨e,_⟩|⟨g',cap,cur,e,_,Ha,_⟩⟩:=r2
 ·rw[e] at oq;cases oq
 have:g'=g:=by rw[e] at oq;simpa [Value.ownBlock] using oq
 subst this;obtain⟨V',⟨D,⟨es,clock,h0,_⟩,_⟩,_⟩:=h.kn;rw[h0] at Ha;cases Ha
theorem PLS.next{BN BH:Nat}{x:List Int}{W7 w':World}{nx:Option (List Int)}{ws':List (Int×Int)}(h:PLS l ms al am cl cm BK XP BL BO BM w V ws W7)(i1:PSt l w.heap.size BN BL BH BO BM x V (nx,ws') w' [XP,BK])(i2:Gr w w')(i3:Kn w' BK l (aG l ms))(i4:∀b∈ [XP,BK],b≠BK->w'.heap[b]?=W7.heap[b]?):
  PLS l ms al am cl cm BK XP BL BO BM w V ws' w':=by
 obtain⟨v,r1,r2,_⟩:=i1.out;have hx:XP≠BK:=by obtain⟨V',hm,_⟩:=h.kn;exact Ne.symm (hm.ne_row h.box)
 refine⟨?_,i1.left,i1.map,⟨v,r1,r2⟩,i3,i2,h.low,h.ne⟩;have:=h.box;unfold Row at this ⊢;rw[i4 XP (by simp) hx];exact this
end
def SI(w:World)(l:List Clk)(ms:List Lmt)(f t:List Int)(e:Ending)(w':World):Prop:=
 Gr w w'/\((aG l ms f&&aG l ms t)=false->e= .returned (.tuple #[.slice none 0 0,.int .i64 7]))/\
  ((aG l ms f&&aG l ms t)=true->∃D,jc l (aG l ms) t D/\(D f=none->e= .returned (.tuple #[.slice none 0 0,.int .i64 9]))/\
   (∀d,D f=some d->∃v,e= .returned (.tuple #[v,.int .i64 0])/\w'.ownsRow w.heap.size 42 3 v (l5 l (aG l ms) D f).length ((l5 l (aG l ms) D f).flatMap nQ)))
theorem Ux(l:List Clk)(ms:List Lmt)(f t:List Int)(al am af at':Option Addr)(cl cm cf ct:Nat)(w:World)(bH:Env w l ms al am)(hf:aI l f)(ht:aI l t)(sf:ag 1 RI w af f)(st:ag 1 RI w at' t):
  Calls Tryz.prog 53 #[.slice al l.length cl,.slice af f.length cf,.slice at' t.length ct,.slice am ms.length cm] w (SI w l ms f t):=by
 have zB:=cg (bm bH.chk).1;have Bj:f.length=l.length:=hf.1;have htl:t.length=l.length:=ht.1;have BG:=Hj l ms f t al am af at' cl cm cf ct w bH hf ht sf st;rw[Bj,htl] at BG;have HE:=aa bH;have SF:=aa sf;have ST:=aa st;have TF:=aa hf;have TT:=aa ht;have BG':=aa BG;clear BG bH hf ht sf st;cases hb:(aG l ms f&&aG l ms t) with
 |false=>go_enter Tryz.func53,Tryz.ntmps53;go_wp2_with fail;refine BG'.out.mono ?_;rintro e w1 ⟨hg,_,h7⟩;obtain rfl:=h7 hb;have G1:=aa hg;have HB:=aa hb;clear h7 hg hb;go_wp2_with fail;go_ret2;exact⟨G1.out.alloc _,(fun _=>rfl),(fun q=>by rw[HB.out] at q;cases q)⟩
 |true=>
  have HB:=aa hb;clear hb;go_enter Tryz.func53,Tryz.ntmps53;go_wp2_with fail;refine BG'.out.mono ?_;rintro e w1 ⟨hg,h0,_⟩;obtain⟨BK,rfl,xK,jV⟩:=h0 HB.out;have G1:=aa hg;have BKL:=aa xK;have MK:=aa jV;clear h0 hg xK jV BG';go_wp2_with fail;obtain⟨XP,hXP⟩:∃XP:Nat,Hid (w1.heap.size=XP):=⟨_,aa rfl⟩;rw[hXP.out];obtain⟨W2,hW2⟩:∃W2:World,Hid (W2=w1.alloc (.cells #[.slice al l.length cl,.slice am ms.length cm,.map (some BK)] 158)):=⟨_,aa rfl⟩;rw[<-hW2.out];have G2:Hid (Gr w W2):=aa (by rw[hW2.out];exact G1.out.alloc _);have X2:Hid (Row W2 XP 158 [.slice al l.length cl,.slice am ms.length cm,.map (some BK)]):=aa (by rw[hW2.out,<-hXP.out];exact Row.new w1 _ _);have K2:Hid (Kn W2 BK l (aG l ms)):=aa (by rw[hW2.out];exact⟨[],MK.out.gr ((gfl _).alloc _),by simp,by simp⟩);have xp:Hid (w.heap.size<=XP):=aa (by have:=hXP.out;have:=G1.out.size;omega);have x0:=X2.out.cell 0 (by simp);have x1:=X2.out.cell 1 (by simp);have x2:=X2.out.cell 2 (by simp);have xh:=X2.out.has;simp only[List.getElem_cons_zero,List.getElem_cons_succ] at x0 x1 x2;clear hW2 MK hXP;refine m6 (c:=Code.region 4 (fr 4 Tryz.f53) true) (by kernel_rfl) (pn4 (w0:=w) (wr:=W2) (l:=l) (ms:=ms) (t:=t) (al:=al) (am:=am) (at':=at') (cl:=cl) (cm:=cm) (ct:=ct) (BK:=BK) (XP:=XP) ⟨X2.out,K2.out,G2.out,Nat.le_refl _⟩ HE.out TT.out (by have:=HB.out;simp at this;exact this.2) ST.out BKL.out G2.out.size ?_);intro eM fw fg im kz BL BM V W3 hp hbl fe hd;simp only[xu];have HP:=aa hp;have LBL:=aa (Nat.le_trans G2.out.size hbl);have RBL:=aa fe;have DI:=aa hd;have LBM:=aa (Nat.le_trans G2.out.size hd.1);have NF:=uj l f al af am cl cf ms.length cm (.map (some BK)) W3 (bj HE.out.clks hp.gr) (SF.out.giI hp.gr) HE.out.chk TF.out;rw[Bj] at NF;have NF':=aa NF;have y0:=hp.box.cell 0 (by simp);have y1:=hp.box.cell 1 (by simp);have y2:=hp.box.cell 2 (by simp);have yh:=hp.box.has;simp only[List.getElem_cons_zero,List.getElem_cons_succ] at y0 y1 y2;clear hp hbl fe hd NF x0 x1 x2 xh;go_wp2_with fail;refine NF'.out.mono ?_;rintro e W4 ⟨rfl,gy⟩;have S4:Hid (∀W5,Gr W4 W5->PLS l ms al am cl cm BK XP BL W5.heap.size BM w V [] (W5.alloc (.cells #[.slice none 0 0] 36))):=aa (fun W5 h5=>by have g:Gr W3 (W5.alloc (.cells #[.slice none 0 0] 36)):=(gy.trans h5).alloc _;exact{box:=HP.out.box.gr g,left:=RBL.out.gr g,map:=DI.out.2.1.gr g,out:=⟨.slice none 0 0,Row.new _ _ _,World.ownsRow_nil _ _ _ _⟩,kn:=HP.out.kn.gr g,gr:=HP.out.gr.trans g,low:=⟨xp.out,LBL.out,by have:=(HP.out.gr.trans (gy.trans h5)).size;omega,LBM.out,BKL.out⟩,ne:=by have:=DI.out.1;have:=K2.out.has;unfold Has at this;omega})
  have hV:=DI.out.2.2.1;have LK:=Ch (DI.out.2.1.gr gy) (m8 HE.out.chk TF.out);rw[pS (fun q hq=>(hV q hq).1) TF.out] at LK;have y0:=(HP.out.box.gr gy).cell 0 (by simp);have y1:=(HP.out.box.gr gy).cell 1 (by simp);have y2:=(HP.out.box.gr gy).cell 2 (by simp);have yh:=(HP.out.box.gr gy).has;have l0:=(RBL.out.gr gy).cell 0 (by simp);have lh:=(RBL.out.gr gy).has;simp only[List.getElem_cons_zero,List.getElem_cons_succ] at y0 y1 y2 l0;have HV:=aa hV;obtain⟨n,hn⟩:∃n,num l f=n:=⟨_,rfl⟩;have HN:=aa hn;rw[hn] at LK ⊢;have G4:=aa (HP.out.gr.trans gy);have DD:=aa DI.out.2.2.2;clear hV hn NF' gy HP DI;cases hd:ba V f with
  |none=>rw[hd] at LK;simp only[Option.getD_none,Option.isSome_none] at LK;have HD:=aa hd;clear hd;go_wp2_with fail;go_ret2;exact⟨G4.out,(fun q=>by rw[HB.out] at q;cases q),(fun _=>⟨ba V,DD.out,(fun _=>rfl),(fun d q=>by rw[HD.out] at q;cases q)⟩)⟩
  |some d=>
   rw[hd] at LK;simp only[Option.getD_some,Option.isSome_some] at LK;have HD:=aa hd;have om:=(HV.out _ (fZ hd)).2;obtain⟨d0,ed⟩:∃d0:Nat,d=d0:=⟨_,(Int.toNat_of_nonneg om.1).symm⟩;have HD0:Hid (d0<4096):=aa (by simp only at om;omega);have ED:=aa ed;clear hd om ed;go_wp2_with fail;obtain⟨BO,hBO⟩:∃BO:Nat,Hid (W4.heap.size=BO):=⟨_,aa rfl⟩;have P5:=aa (S4.out W4 (gfl _));rw[hBO.out] at P5 ⊢;have PL0:Hid (jt (nbS l (aG l ms)) (dz (ba V)) d0 f=l5 l (aG l ms) (ba V) f):=aa (by have:dz (ba V) f=(d0:Int):=(by simp[dz,HD.out,ED.out]);rw[l5,this,Int.toNat_natCast])
   clear S4 LK y0 y1 y2 yh l0 lh hBO
   go_loopg [13] d0 (fun g at0 wr=>∃(x:List Int) (ws:List (Int×Int)),at0= .int .i64 (num l x)/\ba V x=some (g:Int)/\ws.length+g=d0/\Hid (ws++jt (nbS l (aG l ms)) (dz (ba V)) g x=l5 l (aG l ms) (ba V) f)/\PLS l ms al am cl cm BK XP BL BO BM w V ws wr)
   case atStart=>exact⟨f,[],by rw[HN.out],by rw[HD.out,ED.out],by simp,by rw[List.nil_append];exact PL0,P5.out⟩
   case round=>
    clear P5 PL0;obtain⟨x,ws,rfl,hx,gO,dw,hS⟩:=hrel;have Au:=(HV.out _ (fZ hx)).1;have LK:=se hS.map (m8 HE.out.chk Au);rw[pS (fun q hq=>(HV.out q hq).1) Au,hx] at LK;simp only[Option.getD_some] at LK;have HX:=aa hx;have XS:=aa Au;have HS:=aa hS;have LEN:=aa gO;have l0:=hS.left.cell 0 (by simp);have lh:=hS.left.has;simp only[List.getElem_cons_zero] at l0;obtain⟨m,hm⟩:∃m,num l x=m:=⟨_,rfl⟩;have HM:=aa hm;rw[hm] at LK ⊢;cases gk with
    |zero=>obtain⟨v,r1,r2⟩:=hS.out;obtain⟨a,c,rfl⟩:=be r2;have o0:=r1.cell 0 (by simp);have oh:=r1.has;simp only[List.getElem_cons_zero] at o0;have R2:=aa r2;clear hx Au hS gO hm r1 r2;go_wp2_with fail;go_ret2;refine⟨HS.out.gr,(fun q=>by rw[HB.out] at q;cases q),(fun _=>⟨ba V,DD.out,(fun q=>by rw[HD.out] at q;cases q),(fun d' q=>?_)⟩)⟩;have e:=dw.out;simp only[jt,List.append_nil] at e;rw[<-e];exact⟨_,rfl,R2.out⟩
    |succ g=>
     have g1:((g+1:Nat):Int)<4096:=(by have:=HD0.out;omega);have z0:=hS.box.cell 0 (by simp);have z1:=hS.box.cell 1 (by simp);have z2:=hS.box.cell 2 (by simp);have zh:=hS.box.has;simp only[List.getElem_cons_zero,List.getElem_cons_succ] at z0 z1 z2;clear hx Au hS gO hm;go_wp2_with fail;obtain⟨BH,hBH⟩:∃BH:Nat,Hid (wr.heap.size=BH):=⟨_,aa rfl⟩;obtain⟨BN,hBN⟩:∃BN:Nat,Hid (wr.heap.size+1=BN):=⟨_,aa rfl⟩;rw[hBN.out,hBH.out];obtain⟨W6,hW6⟩:∃W6:World,Hid (W6=(wr.alloc (.cells #[.int .i64 m] 3)).alloc (.cells #[.int .i64 (-1)] 3)):=⟨_,aa rfl⟩;rw[<-hW6.out];have g6:Gr wr W6:=(by rw[hW6.out];exact((gfl _).alloc _).alloc _);have H6:Row W6 BH 3 [.int .i64 (num l x)]:=by rw[hW6.out,<-hBH.out,HM.out];exact(Row.new wr _ _).alloc _
     have N6:Row W6 BN 3 [.int .i64 (-1)]:=by rw[hW6.out];exact sZ _ _ _ _ (by rw[<-hBN.out];simp)
     have P6:=HS.out.grow g6;have wz:=HS.out.gr.size;have ST6:=P6.start (BN:=BN) (BH:=BH) (x:=x) N6 H6 (by have:=hBN.out;omega) (by have:=hBH.out;omega) (by have:=hBN.out;have:=hBH.out;omega) XS.out HV.out (by have:=LEN.out;have:=HD0.out;omega);have EC:=Se (PSt l w.heap.size BN BL BH BO BM x V) (mi (ba V) x) l ms x al am cl cm BK BN BL BH BO [XP,BK] w W6 (none,ws) HE.out P6.gr XS.out P6.kn BKL.out
      (fun b hb=>by
       simp only[List.mem_cons,List.not_mem_nil,or_false] at hb;rcases hb with e|e
       ·subst e;exact P6.box.has
       subst e;exact P6.kn.has) (by simp) (Td l w.heap.size BN BL BH BO BM x V) ST6 (QN l (aG l ms) BN BL BH BO BM x V w HE.out.chk XS.out)
     obtain⟨nb,hnb1,Ls,hnb3⟩:=DD.out.found (x:=x) (d:=((g+1:Nat):Int)) HX.out (by omega);rw[pfold,hnb1,HM.out] at EC;simp only at EC;have EC':=aa EC;have P6':=aa P6;have NB3:=aa hnb3;have NB1:=aa hnb1;have HPL:=aa dw.out;clear EC P6 ST6 g6 H6 N6 hW6 hBH hBN hnb1 Ls hnb3 LK l0 lh z0 z1 z2 zh dw;refine EC'.out.mono ?_;rintro e W7 ⟨rfl,i1,i2,i3,i4,i5⟩;have n0:=i1.next.cell 0 (by simp);have nh:=i1.next.has;simp only[List.getElem_cons_zero,LY] at n0;have PN:=aa (P6'.out.next i1 i2 i3 i4);clear i1 i2 i3 i4 i5 EC' P6';go_wp2_with fail
     go_roundg g
     case measure=>omega
     case rel=>
      refine⟨nb.2.2,ws++ [(nb.1,nb.2.1)],rfl,?_,?_,?_,PN.out⟩
      ·rw[NB3.out];congr 1;omega
      ·have:=LEN.out;simp;omega
      refine aa ?_;have hz:dz (ba V) x=((g+1:Nat):Int):=(by simp[dz,HX.out]);have e:=HPL.out;simp only[jt] at e;rw[if_pos (by omega),NB1.out] at e;rw[<-e,List.append_assoc];rfl
def RWc(w:World)(b o:Nat)(p:Int×Int):Prop:=RI w b o 1/\RI w b (o+1) p.1/\RI w b (o+2) p.2
theorem RWc.mono:oA RWc:=fun _ _ _ _ _ hg ⟨h0,h1,h2⟩=>⟨RI.mono _ _ _ _ _ hg h0,RI.mono _ _ _ _ _ hg h1,RI.mono _ _ _ _ _ hg h2⟩
def PJ(ps:List (Int×Int)):Prop:=∀p∈ps,aK p.1/\aK p.2
theorem Rp{w:World}{base:Nat}{v:Value}{ps:List (Int×Int)}(h:w.ownsRow base 42 3 v ps.length (ps.flatMap nQ))(hw:PJ ps):∃a c,v= .slice a ps.length c/\ps.length<=c/\ag 3 RWc w a ps:=by
 rcases Nat.eq_zero_or_pos ps.length with e|e
 ·have:ps= []:=List.eq_nil_of_length_eq_zero e;subst this;obtain⟨a,c,e⟩:=be h;exact⟨a,c,e,Nat.zero_le _,ag.nil _ _ _ _⟩
 obtain⟨g,cap,e1,h1,_,hc⟩:=fM h e;refine⟨_,cap,e1,h1,fun k hk=>⟨g,0,rfl,?_⟩⟩;have hf:=fun j (hj:j<3)=>nJ nQ 3 (fun _=>rfl) ps k j hk hj;have h2:∀j,j<3->w.cell? ⟨g,k*3+j,none⟩=(nQ ps[k])[j]?:=fun j hj=>by rw[hc (k*3+j) (by omega),hf j hj]
 have hwk:=hw _ (List.getElem_mem hk);rw[Nat.zero_add];exact⟨⟨h2 0 (by omega),by unfold aK;omega⟩,⟨h2 1 (by omega),hwk.1⟩,⟨h2 2 (by omega),hwk.2⟩⟩
theorem Ru(a b c d e f:Int)(w:World):(binOp .neq 42 (.agg #[.int .i64 a,.int .i64 b,.int .i64 c]) (.agg #[.int .i64 d,.int .i64 e,.int .i64 f])).run Tryz.prog w= .ok (.bool (!(a==d&&b==e&&c==f))) w:=by
 have hu:Tryz.prog.underlying 42=some (.struct (Tryz.prog.fieldsOf 42)):=by kernel_rfl
 have hs:Tryz.prog.stoodInHeld 42=false:=by kernel_rfl
 rw[run_neq_struct,run_equalIn_agg w 9999 _ _ _ hu hs];cases h1:(a==d)<;>cases h2:(b==e)<;>cases h3:(c==f)<;>simp[go_sem,h1,h2,h3]
def HiR{α:Type}(lo:Nat)(R:World->Nat->Nat->α->Prop)(w:World)(b o:Nat)(x:α):Prop:=lo<=b/\R w b o x
theorem HiR.mono{α:Type}{lo:Nat}{R:World->Nat->Nat->α->Prop}(h:oA R):oA (HiR lo R):=fun _ _ _ _ _ hg ⟨h1,h2⟩=>⟨h1,h _ _ _ _ _ hg h2⟩
theorem ag.lo{α:Type}{n lo:Nat}{R:World->Nat->Nat->α->Prop}{w:World}{a:Option Addr}{xs:List α}(h:ag n (HiR lo R) w a xs):ag n R w a xs:=fun k hk=>by obtain⟨b,o,e,_,h2⟩:=h k hk;exact⟨b,o,e,h2⟩
def RSetH(lo:Nat)(w:World)(b o:Nat)(s:List Int):Prop:=∃a c,w.cell? ⟨b,o,none⟩=some (.slice a s.length c)/\ag 1 (HiR lo RI) w a s
abbrev SetsH(lo:Nat)(w:World)(a:Option Addr)(cs:List (List Int)):Prop:=ag 1 (HiR lo (RSetH lo)) w a cs
abbrev F9(lo:Nat)(w:World)(a:Option Addr)(ps:List (Int×Int)):Prop:=ag 3 (HiR lo RWc) w a ps
theorem F9.gr{lo:Nat}{w W:World}{a:Option Addr}{ps:List (Int×Int)}(h:F9 lo w a ps)(hg:Gr w W):F9 lo W a ps:=ag.gr (HiR.mono RWc.mono) h hg
theorem PO{w:World}{lo base:Nat}{v:Value}{ps:List (Int×Int)}(vU:lo<=base)(h:w.ownsRow base 42 3 v ps.length (ps.flatMap nQ))(hw:PJ ps):∃a c,v= .slice a ps.length c/\F9 lo w a ps:=by
 rcases Nat.eq_zero_or_pos ps.length with e|e
 ·have:ps= []:=List.eq_nil_of_length_eq_zero e;subst this;obtain⟨a,c,e⟩:=be h;exact⟨a,c,e,ag.nil _ _ _ _⟩
 obtain⟨g,cap,e1,h1,hb,hc⟩:=fM h e;refine⟨_,cap,e1,fun k hk=>⟨g,0,rfl,by omega,?_⟩⟩;have hf:=fun j (hj:j<3)=>nJ nQ 3 (fun _=>rfl) ps k j hk hj;have h2:∀j,j<3->w.cell? ⟨g,k*3+j,none⟩=(nQ ps[k])[j]?:=fun j hj=>by rw[hc (k*3+j) (by omega),hf j hj]
 have hwk:=hw _ (List.getElem_mem hk);rw[Nat.zero_add];exact⟨⟨h2 0 (by omega),by unfold aK;omega⟩,⟨h2 1 (by omega),hwk.1⟩,⟨h2 2 (by omega),hwk.2⟩⟩
def Gl(w:World)(cs:List (List Int))(en:Int)(e:Ending)(w':World):Prop:=∃(a:Option Addr) (c:Nat),e= .returned (.tuple #[.slice a cs.length c,.int .i64 en])/\ag 1 nP w' a cs/\Gr w w'
def GivesSH(w:World)(cs:List (List Int))(en:Int)(e:Ending)(w':World):Prop:=∃(a:Option Addr) (c:Nat),e= .returned (.tuple #[.slice a cs.length c,.int .i64 en])/\SetsH w.heap.size w' a cs/\Gr w w'
def F6(w:World)(ps:List (Int×Int))(en:Int)(e:Ending)(w':World):Prop:=∃(a:Option Addr) (c:Nat),e= .returned (.tuple #[.slice a ps.length c,.int .i64 en])/\ag 3 RWc w' a ps/\Gr w w'
theorem F6.none{w w':World}{en:Int}(hg:Gr w w'):F6 w [] en (.returned (.tuple #[.slice none 0 0,.int .i64 en])) w':=⟨_,0,rfl,ag.nil _ _ _ _,hg⟩
def BV(w:World)(ps:List (Int×Int))(en:Int)(e:Ending)(w':World):Prop:=∃(a:Option Addr) (c:Nat),e= .returned (.tuple #[.slice a ps.length c,.int .i64 en])/\F9 w.heap.size w' a ps/\Gr w w'
theorem BV.none{w w':World}{en:Int}(hg:Gr w w'):BV w [] en (.returned (.tuple #[.slice none 0 0,.int .i64 en])) w':=⟨_,0,rfl,ag.nil _ _ _ _,hg⟩
theorem IN(q0 q1:Nat)(l:List Scl)(ao:Option Addr)(cap:Nat)(p:Scl->Prop)(w:World)(h:ag 3 lN w ao l)(hf:Fit l.length)(hp:iJ Dg 100 #[.pointer (some ⟨q0,0,none⟩),.pointer (some ⟨q1,0,none⟩)] l p w):
  Calls Tryz.prog 153 #[.slice ao l.length cap,.func (.func 100) #[] #[.pointer (some ⟨q0,0,none⟩),.pointer (some ⟨q1,0,none⟩)]] w (mW p l w):=by
 unfold Fit at hf;have H:=aa h;have HP:=aa hp;clear h hp;go_enter Tryz.func153,Tryz.ntmps153;go_wp2;go_loopw [8] (fun i wr=>∃k:Nat,k<=l.length/\i= .int .i64 k/\(∀j (hj:j<k) (lA:j<l.length),¬p l[j])/\Gr w wr) (fun i _=>l.length-(intOf i).toNat);case atStart=>exact⟨0,Nat.zero_le _,rfl,fun j h=>absurd h (by omega),gfl _⟩
 case round=>
  obtain⟨k,hk,rfl,aH,hg⟩:=hrel;have HA:=aa aH;have HG:=aa hg;clear aH hg;by_cases aA:k<l.length
  ·obtain⟨b,o,al,cl,rfl,c0,c1,c2,hv⟩:=Fl (uB H.out HG.out) aA;have cr:=HP.out wr (.agg #[.int .i64 l[k].clock,.int .i64 l[k].supply,.slice al l[k].points.length cl]) k aA HG.out hv;by_cases hq:p l[k]
   ·rw[dtx hq] at cr;have Q:=aa hq;clear hq;go_wp2_with fail;refine cr.mono ?_;rintro e w' ⟨rfl,O,d,rfl⟩;go_wp2_with fail;go_ret;exact⟨_,rfl,.inr ⟨k,aA,rfl,Q.out,fun j hj=>HA.out j hj (by omega)⟩,HG.out.xt _ _⟩
   rw[dfx hq] at cr;have Q:=aa hq;clear hq;go_wp2_with fail;refine cr.mono ?_;rintro e w' ⟨rfl,O,d,rfl⟩;go_wp2_with fail;go_roundw;case rel=>
    refine⟨k+1,by omega,by go_num,fun j hj lA=>?_,HG.out.xt _ _⟩;by_cases e:j=k
    ·subst e;exact Q.out
    exact HA.out j (by omega) lA
   case measure=>simp[intOf];omega
  go_wp2;go_ret;exact⟨_,rfl,.inl ⟨rfl,fun j hj=>HA.out j (by omega) hj⟩,HG.out⟩
theorem Di(q0 q1:Nat)(l:List Scl)(ao:Option Addr)(cap:Nat)(p:Scl->Prop)(w:World)(h:ag 3 lN w ao l)(hf:Fit l.length)(hp:iJ Dg 100 #[.pointer (some ⟨q0,0,none⟩),.pointer (some ⟨q1,0,none⟩)] l p w):
  Calls Tryz.prog 99 #[.slice ao l.length cap,.func (.func 100) #[] #[.pointer (some ⟨q0,0,none⟩),.pointer (some ⟨q1,0,none⟩)]] w (aN w (.bool (decide (lE p l)))):=by
 have H:=aa h;have HP:=aa hp;have HF:=aa hf;clear h hp hf;go_enter Tryz.func99,Tryz.ntmps99;go_wp2_with fail;refine(IN q0 q1 l ao cap p _ H.out HF.out HP.out).mono ?_;rintro e w' ⟨x,rfl,hx,O,d,rfl⟩;have X:=aa hx;clear hx;go_wp2_with fail;go_ret;exact⟨ai X.out.any,(gfl _).xt _ _⟩
theorem Mn(c:List Scl)(q0 q1:Nat)(al ap:Option Addr)(nl np cl cp:Nat)(w:World)(h0:w.cell? ⟨q0,0,none⟩=some (.slice al nl cl))(h1:w.cell? ⟨q1,0,none⟩=some (.slice ap np cp))(hnl:nl<=1000000)(hnp:np<=1000000):
  iJ Dg 100 #[.pointer (some ⟨q0,0,none⟩),.pointer (some ⟨q1,0,none⟩)] c (fun x=>¬kU nl np x) w:=by
 rintro W v k hk hg ⟨a,ca,rfl,hl,hf,hs,qy,nA⟩;have S:=aa hs;have F:=aa hf;have c0:=aB hg h0;have c1:=aB hg h1;have ch0:=ae c0;have ch1:=ae c1;obtain⟨x,hx⟩:∃x,c[k]=x:=⟨_,rfl⟩;rw[hx] at S F ⊢;clear hs hf hg hl qy nA h0 h1 hx;show Calls Tryz.prog 100 #[_,_,_] W _;by_cases e1:0<=x.clock/\x.clock<=(nl:Int)-1
 ·by_cases e2:0<=x.supply/\x.supply<=(np:Int)-1
  ·by_cases e3:fA x.points
   ·have D:=aa (show¬¬kU nl np x from fun q=>q ⟨by omega,by omega,by omega,by omega,e3⟩);have P3:=aa (fun W' (hW:Gr W W')=>(yZ x.points a ca W' (kK S.out hW) F.out));rw[dtx e3] at P3;clear e3;go_enter Tryz.func100,Tryz.ntmps100;go_wp2_with fail;refine(gG (by omega)).mono ?_;rintro e w' ⟨rfl,rfl⟩;go_wp2_with fail;refine(gG (by omega)).mono ?_;rintro e w' ⟨rfl,rfl⟩;go_wp2_with fail;refine(P3.out _ ((gfl _).alloc _)).mono ?_;rintro e w' ⟨rfl,O,d,rfl⟩;go_wp2_with fail;go_ret;exact⟨ai (DG D.out),((gfl _).alloc _).xt _ _⟩
   have D:=aa (show¬kU nl np x from fun q=>e3 q.2.2.2.2);have P3:=aa (fun W' (hW:Gr W W')=>(yZ x.points a ca W' (kK S.out hW) F.out));rw[dfx e3] at P3;clear e3;go_enter Tryz.func100,Tryz.ntmps100;go_wp2_with fail;refine(gG (by omega)).mono ?_;rintro e w' ⟨rfl,rfl⟩;go_wp2_with fail;refine(gG (by omega)).mono ?_;rintro e w' ⟨rfl,rfl⟩;go_wp2_with fail;refine(P3.out _ ((gfl _).alloc _)).mono ?_;rintro e w' ⟨rfl,O,d,rfl⟩;go_wp2_with fail;go_ret;exact⟨ai (wQ D.out),((gfl _).alloc _).xt _ _⟩
  have D:=aa (show¬kU nl np x from fun q=>e2 ⟨q.2.2.1,by have:=q.2.2.2.1;omega⟩);go_enter Tryz.func100,Tryz.ntmps100;go_wp2_with fail;refine(gG (by omega)).mono ?_;rintro e w' ⟨rfl,rfl⟩;go_wp2_with fail;refine(jW (by omega)).mono ?_;rintro e w' ⟨rfl,rfl⟩;go_wp2_with fail;go_ret;exact⟨ai (wQ D.out),(gfl _).alloc _⟩
 have D:=aa (show¬kU nl np x from fun q=>e1 ⟨q.1,by have:=q.2.1;omega⟩);go_enter Tryz.func100,Tryz.ntmps100;go_wp2_with fail;refine(jW (by omega)).mono ?_;rintro e w' ⟨rfl,rfl⟩;go_wp2_with fail;go_ret;exact⟨ai (wQ D.out),(gfl _).alloc _⟩
theorem Qq{l:List Clk}{p:List Sup}{c:List Scl}(h1:bA l=0)(h2:chk p=0)(h3:c.length<=32):fU l p c↔¬lE (fun x=>¬kU l.length p.length x) c:=by
 constructor
 ·rintro⟨_,_,_,h⟩ ⟨k,hk,q⟩;exact q (h _ (List.getElem_mem hk))
 intro h;refine⟨h1,h2,h3,fun x hx=>?_⟩;obtain⟨k,hk,rfl⟩:=List.getElem_of_mem hx;exact Classical.byContradiction fun q=>h ⟨k,hk,q⟩
theorem Ck(l:List Clk)(p:List Sup)(c:List Scl)(al ap ac:Option Addr)(cl cp cc:Nat)(w:World)(h:ag 5 cY w al l)(hp:ag 5 bG w ap p)(hc:ag 3 lN w ac c)(fl:Fit l.length)(fp:Fit p.length)(fc:Fit c.length):
  Calls Tryz.prog 36 #[.slice al l.length cl,.slice ap p.length cp,.slice ac c.length cc] w (aN w (.bool (decide (fU l p c)))):=by
 have H:=aa h;have HP:=aa hp;have HC:=aa hc;have FC:=fc;unfold Fit at FC;obtain⟨W0,hW0⟩:∃W0:World,Hid (W0=(w.alloc (.cells #[.slice al l.length cl] 25)).alloc (.cells #[.slice ap p.length cp] 26)):=⟨_,aa rfl⟩;have G0:Hid (Gr w W0):=aa (by rw[hW0.out];exact((gfl _).alloc _).alloc _);have R0:Hid (Row W0 w.heap.size 25 [.slice al l.length cl]):=aa (by rw[hW0.out];exact(Row.new _ _ _).alloc _);have R1:Hid (Row W0 (w.heap.size+1) 26 [.slice ap p.length cp]):=aa (by rw[hW0.out];have:=Row.new (w.alloc (.cells #[.slice al l.length cl] 25)) #[.slice ap p.length cp] 26;simpa using this);clear h hp hc;go_enter Tryz.func36,Tryz.ntmps36;go_upto_region 1 with fail;rw[<-hW0.out];have a0:=R0.out.cell 0 (by simp);have ah:=R0.out.has;simp only[List.getElem_cons_zero] at a0;clear hW0;go_wp2_with fail;refine(ni l al cl W0 (H.out.gr cY.mono G0.out) fl).mono ?_;rintro e w1 ⟨rfl,bD⟩;have G1:=aa bD;clear bD a0 ah;have a1:=(R1.out.gr G1.out).cell 0 (by simp);have ah1:=(R1.out.gr G1.out).has;simp only[List.getElem_cons_zero] at a1;by_cases e1:bA l=0
 ·rw[e1];have E1:=aa e1;clear e1;go_wp2_with fail;refine(tI p ap cp w1 (HP.out.gr bG.mono (G0.out.trans G1.out)) fp).mono ?_;rintro e w2 ⟨rfl,bY⟩;have G2:=aa (G1.out.trans bY);clear bY a1 ah1;by_cases e2:chk p=0
  ·rw[e2];have E2:=aa e2;have L1:=cg (bm E1.out).1;have L2:p.length<=16:=by
    have:=(cW e2).1;simp only[jI,not_or] at this;omega
   clear e2;by_cases e3:c.length<=32
   ·have f3:decide ((32:Int)<(c.length:Int))=false:=dfx (by omega);have q0:=(R0.out.gr G2.out).cell 0 (by simp);have q1:=(R1.out.gr G2.out).cell 0 (by simp);have IFF:=aa (Qq E1.out E2.out e3);have V:=aa (Di w.heap.size (w.heap.size+1) c ac cc _ w2 (uB HC.out (G0.out.trans G2.out)) fc (Mn c _ _ al ap l.length p.length cl cp w2 q0 q1 (by omega) (by omega)));clear q0 q1;go_wp2_with fail;refine V.out.mono ?_;rintro e w3 ⟨rfl,cG⟩;have G3:=aa (G0.out.trans (G2.out.trans cG));clear cG;by_cases e4:lE (fun x=>¬kU l.length p.length x) c
    ·rw[dtx e4];have D:=aa (show false=decide (fU l p c) from bC (fun q=>(IFF.out.1 q) e4));clear e4;go_wp2_with fail;go_ret;exact⟨ai D.out,G3.out⟩
    rw[dfx e4];have D:=aa (show true=decide (fU l p c) from tB (IFF.out.2 e4));clear e4;go_wp2_with fail;go_ret;exact⟨ai D.out,G3.out⟩
   have f3:decide ((32:Int)<(c.length:Int))=true:=dtx (by omega);have D:=aa (show false=decide (fU l p c) from bC (fun q=>e3 q.2.2.1));go_wp2_with fail;go_ret;exact⟨ai D.out,G0.out.trans G2.out⟩
  obtain⟨x,hx⟩:∃x,chk p=x:=⟨_,rfl⟩;have D:=aa (show false=decide (fU l p c) from bC (fun q=>e2 q.2.1));rw[hx] at e2 ⊢;have b2:(x !=0)=true:=by simp[e2]
  clear hx e2;go_wp2_with fail;go_ret;exact⟨ai D.out,G0.out.trans G2.out⟩
 obtain⟨x,hx⟩:∃x,bA l=x:=⟨_,rfl⟩;have D:=aa (show false=decide (fU l p c) from bC (fun q=>e1 q.1));rw[hx] at e1 ⊢;have b1:(x !=0)=true:=by simp[e1]
 clear hx e1;go_wp2_with fail;go_ret;exact⟨ai D.out,G0.out.trans G1.out⟩
noncomputable def cntK(l:List Clk)(p:List Int->Bool)(k:Nat):Nat:=(List.range k).countP fun i=>p (setN l i)
def LieS(BO BF n:Nat)(w0:World):Lie (Option (List Int)):=fun o w L=>BO∉L/\BF∉L/\w0.heap.size<=BO/\w0.heap.size<=BF/\BO≠BF/\Row w BF 4 [.bool o.isSome]/\
 match o with
 |none=>Row w BO 22 [.slice none 0 0]
 |some s=>∃B c,Row w BO 22 [.slice (some ⟨B,0,none⟩) n c]/\bd w B 3 (an s)/\B∉L/\w0.heap.size<=B/\B≠BO/\B≠BF
def LeastS(l:List Clk)(ms:List Lmt)(s:List Int):Prop:=aI l s/\Qg l ms s=true/\∀s',aI l s'->num l s'<num l s->Qg l ms s'=false
end Go.Proofs.YtlmhkjdkcoiioaaGreatDoor
