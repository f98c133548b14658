/- Lemmas and contracts for the proof of PointAlone (several texts in one, printed by wip/tools/pack.py): ZPrgE ZPrgF ZPrgG ZPrgH. -/
import Derived.Test.YtlmhkjdkcoiioaaGreatDoorAl8pm
import Derived.Test.YtlmhkjdkcoiioaaGreatDoorAl8pa
import Derived.Test.YtlmhkjdkcoiioaaGreatDoorAl8pb
import Derived.RangeFuncNested
import Derived.RangeFuncBound
import Derived.RangeFuncCalls
import Derived.RangeFuncLeaves
import Derived.Shelf.Abstract
import Derived.Shelf.RegionOpen
import Derived.WalkKit
import Derived.OwnWalkIn
import Derived.TacticsInMore
import Derived.LoopNIn
import Derived.LoopIn
set_option maxRecDepth 100000
set_option maxHeartbeats 16000000
set_option linter.unusedVariables false
set_option linter.unusedSimpArgs false
namespace Go.Proofs.YtlmhkjdkcoiioaaGreatDoor
section
open Go.RowKit Go.Shelf
open Classical
attribute [local go_sem] Oper.semAt_some
def jO(n k:Nat):List (Fin n):=(List.finRange n).reverse.take k
theorem rD(n k:Nat)(h:k<=n):(jO n k).length=k:=by simp[jO];omega
theorem EJ(n k:Nat)(h:k<n):jO n (k+1)=jO n k++ [⟨n-1-k,by omega⟩]:=by unfold jO;rw[List.take_add_one];congr 1;rw[List.getElem?_eq_getElem (by simpa using h)];simp
def km(b c:Nat)(W W':World):Prop:=W'.heap[b]?=W.heap[b]?/\W'.heap[c]?=W.heap[c]?
theorem km.refl(b c:Nat)(W:World):km b c W W:=⟨rfl,rfl⟩
theorem km.trans{b c:Nat}{A B C:World}(h:km b c A B)(k:km b c B C):km b c A C:=⟨k.1.trans h.1,k.2.trans h.2⟩
theorem km.fst{b c:Nat}{W W':World}(h:km b c W W'){o:Nat}{s:Option Nat}{v:Value}(q:W.cell? ⟨b,o,s⟩=some v):W'.cell? ⟨b,o,s⟩=some v:=(World.cell?_of_block (w:=W) h.1).trans q
theorem km.snd{b c:Nat}{W W':World}(h:km b c W W'){o:Nat}{s:Option Nat}{v:Value}(q:W.cell? ⟨c,o,s⟩=some v):W'.cell? ⟨c,o,s⟩=some v:=(World.cell?_of_block (w:=W) h.2).trans q
def sv(l:List Sup)(al:Nat->Option Addr)(cl:Nat->Nat)(x:Fin l.length):Value:= .agg #[.int .i64 l[x.1].parent,.slice (al x.1) l[x.1].levels.length (cl x.1),.int .i64 l[x.1].dropout,.int .i64 l[x.1].capacity,.bool l[x.1].always]
def yG(w:World)(b o:Nat)(l:List Sup)(al:Nat->Option Addr)(cl:Nat->Nat):Prop:=
 ∀k (hk:k<l.length),w.cell? ⟨b,o+k*5,none⟩=some (.int .i64 l[k].parent)/\w.cell? ⟨b,o+k*5+1,none⟩=some (.slice (al k) l[k].levels.length (cl k))/\w.cell? ⟨b,o+k*5+2,none⟩=some (.int .i64 l[k].dropout)/\w.cell? ⟨b,o+k*5+3,none⟩=some (.int .i64 l[k].capacity)/\w.cell? ⟨b,o+k*5+4,none⟩=some (.bool l[k].always)
theorem Ly(F:Fence)(n:Nat)(h8:F.fn 186)(Hh:F.round=none)(hn:1<=n)(lp Bs b o cap:Nat)(l:List Sup)(al:Nat->Option Addr)(cl:Nat->Nat)(hl:l.length<=16)(J Jx:List (Fin l.length)->World->Prop)
  (hY:∀pre x W,J pre W->pre.length<l.length->YieldAt F (n-1) Tryz.prog lp #[.int .i64 (x.1:Int),sv l al cl x] W fun e W'=>(e= .returned (.bool true)/\J (pre++ [x]) W'/\km b Bs W W')∨(e= .returned (.bool false)/\Jx (pre++ [x]) W'))
  (W:World) (hBs:W.cell? ⟨Bs,0,none⟩=some (.slice (some ⟨b,o,none⟩) l.length cap)) (hc:yG W b o l al cl) (h0:J [] W):
  CallsIn F n Tryz.prog 186 #[.func (.yield lp) #[] #[],.pointer (some ⟨Bs,0,none⟩)] W fun e W'=>(∃v,e= .returned v)/\
   ((∃ys,ys=jO l.length l.length/\J ys W')∨(∃pre,(∃k,k<=l.length/\pre=jO l.length k)/\Jx pre W')):=by
 have HC:=aa hc;clear hc;refine callsIn_of_wp Tryz.func186 rfl h8 ?_ Hh;simp only[Tryz.ntmps186,List.size_toArray,List.length_cons,List.length_nil,Nat.reduceAdd,Nat.reduceSub,Array.replicate_succ,Array.replicate_zero,List.push_toArray,List.append_toArray,List.nil_append,List.cons_append];gi_wp2
 gi_loopw [3] (fun i wr=>∃k:Nat,k<=l.length/\i= .int .i64 ((k:Int)-1)/\J (jO l.length (l.length-k)) wr/\km b Bs W wr)
  (fun i _=>(intOf i+1).toNat)
 case atStart=>exact⟨l.length,Nat.le_refl _,rfl,by rw[Nat.sub_self];exact h0,km.refl _ _ _⟩
 case round=>
  obtain⟨k,hk,rfl,hJs,Cz⟩:=hrel;have hBs':=Cz.snd hBs;cases k with
  |zero=>gi_wp2;go_end0;exact⟨⟨_,rfl⟩,.inl ⟨_,rfl,by simpa using hJs⟩⟩
  |succ j=>
   rw[show((j+1:Nat):Int)-1=(j:Int) by omega];obtain⟨c0,c1,c2,c3,c4⟩:=HC.out j hk;replace c0:=Cz.fst c0;replace c1:=Cz.fst c1;replace c2:=Cz.fst c2;replace c3:=Cz.fst c3;replace c4:=Cz.fst c4;have hd:jO l.length (l.length-j)=jO l.length (l.length-(j+1))++ [⟨j,hk⟩]:=by have:=EJ l.length (l.length-(j+1)) (by omega);rw[show l.length-(j+1)+1=l.length-j by omega] at this;rw[this];congr 3;omega
   obtain⟨fn,tmps,assign,body,hy,hR⟩:=hY _ ⟨j,hk⟩ wr hJs (by rw[rD _ _ (by omega)];omega);unfold sv at hy;dsimp only at hy;gi_wp2;refine hR.mono ?_;rintro e W3 (⟨rfl,hJ3,hk3⟩|⟨rfl,hJx3⟩)
   ·gi_wp2;go_roundw;case rel=>exact⟨j,by omega,by simp,by rw[hd];exact hJ3,Cz.trans hk3⟩
    case measure=>simp[intOf]
   gi_wp2;refine bodyPost_ret (results_none rfl _ _ _) rfl ?_;exact⟨⟨_,rfl⟩,.inr ⟨_,⟨l.length-j,by omega,hd.symm⟩,hJx3⟩⟩
theorem Dv(F:Fence)(n:Nat)(h8:F.fn 186)(Hh:F.round=none)(lp Bs cap:Nat)(ao:Option Addr){α:Type}(J:List α->World->Prop)
  (W:World) (hBs:W.cell? ⟨Bs,0,none⟩=some (.slice ao 0 cap)) (h0:J [] W):
  CallsIn F n Tryz.prog 186 #[.func (.yield lp) #[] #[],.pointer (some ⟨Bs,0,none⟩)] W fun e W'=>(∃v,e= .returned v)/\J [] W':=by
 refine callsIn_of_wp Tryz.func186 rfl h8 ?_ Hh;simp only[Tryz.ntmps186,List.size_toArray,List.length_cons,List.length_nil,Nat.reduceAdd,Nat.reduceSub,Array.replicate_succ,Array.replicate_zero,List.push_toArray,List.append_toArray,List.nil_append,List.cons_append];gi_wp2
 gi_loopw [3] (fun i wr=>i= .int .i64 (-1)/\wr=W) (fun i _=>0)
 case atStart=>exact⟨rfl,rfl⟩
 case round=>obtain⟨rfl,rfl⟩:=hrel;gi_wp2;go_end0;exact⟨⟨_,rfl⟩,h0⟩
theorem FM{b c:Nat}{w:World}(hb:b<w.heap.size)(hc:c<w.heap.size)(W:World)(l:Nat)(o o':Obj)(hl:w.heap.size<=l)(h:W.heap[l]?=some o)(_:o.isCells=false)(_:o.isWalk=false):km b c W (W.putObj l o'):=
 ⟨(belowK_b (w:=w) (Nat.le_refl _) W l o o' hl h (by assumption) (by assumption)).block b hb,(belowK_b (w:=w) (Nat.le_refl _) W l o o' hl h (by assumption) (by assumption)).block c hc⟩
theorem sY(F:Fence)(n:Nat)(h8:F.fn 186)(Hh:F.round=none)(hn:1<=n)(Bs b cap:Nat)(ao:Option Addr)(l:List Sup)(al:Nat->Option Addr)(cl:Nat->Nat)(hl:l.length<=16)(w:World)(hBs:Bs<w.heap.size)(hb:b<w.heap.size)
  (hc:w.cell? ⟨Bs,0,none⟩=some (.slice ao l.length cap)) (hS:l.length=0∨∃o,ao=some ⟨b,o,none⟩/\yG w b o l al cl):
  SeqStopsK F n Tryz.prog 186 #[.pointer (some ⟨Bs,0,none⟩)] (fun x:Fin l.length=> #[Value.int .i64 (x.1:Int),sv l al cl x]) (km b Bs) (fun ys=>ys=jO l.length l.length)
   (fun pre=>∃k,k<=l.length/\pre=jO l.length k) l.length w:=fun lp J Jx W hW _ _ hY h0=>by
 have uS:=(hW.cell (p:=⟨Bs,0,none⟩) hBs).trans hc;rcases hS with h|⟨o,rfl,lV⟩
 ·rw[h] at uS;refine(Dv F n h8 Hh lp Bs cap ao J W uS h0).mono fun e W' ⟨he,hj⟩=>⟨he,.inl ⟨[],?_,hj⟩⟩;show([]:List (Fin l.length))=jO l.length l.length
  symm
  exact List.eq_nil_of_length_eq_zero (by rw[rD _ _ (Nat.le_refl _)];exact h)
 exact Ly F n h8 Hh hn lp Bs b o cap l al cl hl J Jx hY W uS (fun k hk=>by obtain⟨c0,c1,c2,c3,c4⟩:=lV k hk;exact⟨(hW.cell (p:=⟨b,_,none⟩) hb).trans c0,(hW.cell (p:=⟨b,_,none⟩) hb).trans c1,(hW.cell (p:=⟨b,_,none⟩) hb).trans c2,(hW.cell (p:=⟨b,_,none⟩) hb).trans c3,(hW.cell (p:=⟨b,_,none⟩) hb).trans c4⟩) h0
theorem xB(F:Fence)(n:Nat)(h7:F.fn 166)(Hh:F.round=none)(ao:Option Addr)(len cap:Nat)(w:World):
  CallsIn F n Tryz.prog 166 #[.slice ao len cap] w fun e w'=>e= .returned (.func (.func 186) #[] #[.pointer (some ⟨w.heap.size,0,none⟩)])/\w'=w.alloc (.cells #[.slice ao len cap] 26):=by
 refine callsIn_of_wp Tryz.func166 rfl h7 ?_ Hh;simp only[Tryz.ntmps166,List.size_toArray,List.length_cons,List.length_nil,Nat.reduceAdd,Nat.reduceSub,Array.replicate_succ,Array.replicate_zero,List.push_toArray,List.append_toArray,List.nil_append,List.cons_append];gi_wp2;go_ret;exact⟨rfl,rfl⟩
attribute [local go_sem] Oper.semAt_some
def ux(l:List Sup)(d:List Drw)(m:Nat)(vs:List Bool):Prop:=vs.length=l.length/\∀j (h:j<vs.length),vs[j]=true↔Hit d j m
theorem ux.start(l:List Sup)(d:List Drw):ux l d 0 (List.replicate l.length false):=⟨by simp,fun j h=>by simp[Hit]⟩
theorem ux.step{l:List Sup}{d:List Drw}{m:Nat}{vs:List Bool}(h:ux l d m vs)(hm:m<d.length)(s:Nat)(hs:d[m].supply=(s:Int)):ux l d (m+1) (vs.set s true):=by
 refine⟨by simpa using h.1,fun j hj=>?_⟩;simp only[List.length_set] at hj;have lI:=h.2 j hj;by_cases e:s=j
 ·subst e;simp only[List.getElem_set_self,true_iff];exact⟨m,by omega,hm,hs⟩
 rw[List.getElem_set_ne e,lI];constructor
 ·rintro⟨k,h1,h2,h3⟩;exact⟨k,by omega,h2,h3⟩
 rintro⟨k,h1,h2,h3⟩;by_cases e2:k=m
 ·subst e2;omega
 exact⟨k,by omega,h2,h3⟩
theorem ux.inv{l:List Sup}{d:List Drw}{vs:List Bool}(h:ux l d d.length vs):nm l d (fun j=>∃x∈d,x.supply=(j:Int)) l.length vs:=by
 refine⟨h.1,fun j hj=>⟨fun q=>?_,fun _=>?_⟩⟩
 ·have:=h.1;omega
 rw[h.2 j hj,Nr];exact⟨fun q=> .inl q,fun q=>q.elim id (fun⟨c,h1,h2,_⟩=>by omega)⟩
theorem jR{β:Type}(B T:Nat)(f:β->List Value):Own (fun s W=>Row W B T (f s)):=fun s X Y rw' hs hg hr=>(grownBy_keeps_cells hg hr hs rfl).trans hs
theorem Ao{w W:World}{ao:Option Addr}{l:List Sup}(h:ag 5 bG w ao l)(hg:Gr w W)(b0:Nat)(hb0:b0<W.heap.size):
  ∃b al cl,b<W.heap.size/\(0<l.length->b<w.heap.size)/\(l.length=0∨∃o,ao=some ⟨b,o,none⟩/\yG W b o l al cl):=by
 rcases Nat.eq_zero_or_pos l.length with e|e
 ·exact⟨b0,fun _=>none,fun _=>0,hb0,fun q=>by omega,.inl e⟩
 obtain⟨b,o,rfl,aH⟩:=h.all e;have vP:b<w.heap.size:=ae (aH 0 e).1.1;refine⟨b,fun k=>if hk:k<l.length then Classical.choose (aH k hk).2.1 else none,fun k=>if hk:k<l.length then Classical.choose (Classical.choose_spec (aH k hk).2.1) else 0,Nat.lt_of_lt_of_le vP hg.size,fun _=>vP,.inr ⟨o,rfl,fun k hk=>?_⟩⟩;have q:=Classical.choose_spec (Classical.choose_spec (aH k hk).2.1);obtain⟨c0,_,c2,c3,c4⟩:=aH k hk;refine⟨aB hg c0.1,?_,aB hg c2.1,aB hg c3.1,aB hg c4⟩;simp only[hk,dif_pos];exact aB hg q.1
theorem ug{n k:Nat}{pre:List (Fin n)}{x:Fin n}(hk:k<=n)(h:pre++ [x]=jO n k):∃k0,k=k0+1/\pre=jO n k0/\x.1=n-1-k0/\k0<n:=by have hl:=congrArg List.length h;rw[rD n k hk] at hl;simp at hl;refine⟨pre.length,by omega,?_⟩;rw[<-hl,EJ n pre.length (by omega)] at h;have:=List.append_inj' h rfl;refine⟨this.1,?_,by omega⟩;have q:=this.2;simp only[List.cons.injEq,and_true] at q;rw[q]
theorem Oh{l:List Sup}{d:List Drw}{i:Nat}{vs:List Bool}(h:nm l d (fun j=>∃x∈d,x.supply=(j:Int)) (i+1) vs)(hi:i<l.length)(hv:i<vs.length):(vs[i]||l[i].always)=true↔fF l d i:=by
 have:=(h.2 i hv).2 (by omega);rw[Bool.or_eq_true,this,Aq hi];constructor
 ·rintro((q|q)|q)
  ·exact .inr (.inl q)
  ·exact .inr (.inr q)
  exact .inl q
 rintro(q|q|q)
 ·exact .inr q
 ·exact .inl (.inl q)
 exact .inl (.inr q)
def svs(l:List Sup)(al:Nat->Option Addr)(cl:Nat->Nat)(x:Fin l.length):List Value:= [.int .i64 l[x.1].parent,.slice (al x.1) l[x.1].levels.length (cl x.1),.int .i64 l[x.1].dropout,.int .i64 l[x.1].capacity,.bool l[x.1].always]
structure kV(B:Nat)(W W':World):Prop where
 ko:KeepsOthers W W'
 blk:∀k,k≠B->W'.heap[k]?=W.heap[k]?
 os:W'.os=W.os
 tape:W'.tape=W.tape
 output:W'.output=W.output
theorem kV.drew{B:Nat}{W W':World}(h:kV B W W'):kV B W W'.drew:=⟨h.ko.trans (KeepsOthers.drew _),h.blk,h.os,h.tape,h.output⟩
theorem kV.refl(B:Nat)(W:World):kV B W W:=⟨KeepsOthers.refl W,fun _ _=>rfl,rfl,rfl,rfl⟩
theorem kV.set{B o:Nat}{v:Value}{W W':World}(h:kV B W W'):kV B W (W'.setCell ⟨B,o,none⟩ v):=
 ⟨h.ko.trans (KeepsOthers.setCell _ _ _),fun k hk=>by rw[<-h.blk k hk];simp[World.setCell,Array.getElem?_modify,Ne.symm hk],h.os,h.tape,h.output⟩
theorem kV.keep2{B b c:Nat}{W W':World}(h:kV B W W')(hb:b≠B)(hc:c≠B):km b c W W':=⟨h.blk b hb,h.blk c hc⟩
theorem kV.below{B n:Nat}{w W W':World}(h:kV B W W')(hw:Below n w W)(hn:n<=B):Below n w W':=
 ⟨h.os.trans hw.os,h.tape.trans hw.tape,h.output.trans hw.output,Nat.le_trans hw.size h.ko.size,fun k hk=>(h.blk k (by omega)).trans (hw.block k hk)⟩
theorem kV.row{B C T:Nat}{vs:List Value}{W W':World}(h:kV B W W')(hr:Row W C T vs)(hc:C≠B):Row W' C T vs:=(h.blk C hc).trans hr
theorem De(l:List Sup)(d:List Drw)(ao a1:Option Addr)(cap c1:Nat)(w:World)(h:ag 5 bG w ao l)(hf:l.length<=16)(hok:gz l)(h1:ag 4 cX w a1 d)(f1:d.length<=32)(hd:∀k (hk:k<d.length),0<=d[k].supply/\d[k].supply<l.length):
  Calls Tryz.prog 124 #[.slice ao l.length cap,.slice a1 d.length c1] w (By 1 RB w (cH l d)):=by
 have H:=aa h;have H1:=aa h1;have OK:=aa hok;have HD:=aa hd;clear h h1 hok hd;have jV:=run_make_row' (P:=Tryz.prog) 27 4 (.bool false) 1 Tryz.underlying27 pe rfl .i64 .i64 l.length (by omega) (by omega);refine(callsIn_wide (n:=3)).1 ?_;refine callsIn_of_wp_marks Tryz.func124 rfl trivial ?_ rfl;simp only[Tryz.ntmps124,List.size_toArray,List.length_cons,List.length_nil,Nat.reduceAdd,Nat.reduceSub,Array.replicate_succ,Array.replicate_zero,List.push_toArray,List.append_toArray,List.nil_append,List.cons_append];gi_wp2_with fail;clear jV
 gi_loopw [15] (fun i wr=>∃m:Nat,m<=d.length/\i= .int .i64 m/\Gr w wr/\Row wr (w.heap.size+1) 27 [.slice (some ⟨w.heap.size,0,none⟩) l.length l.length]/\∃vs,Row wr w.heap.size 4 (bg vs)/\ux l d m vs) (fun i _=>d.length-(intOf i).toNat)
 case atStart=>
  refine⟨0,Nat.zero_le _,rfl,((gfl _).alloc _).alloc _,?_,List.replicate l.length false,?_,ux.start l d⟩
  ·have:=Row.new (w.alloc (.cells (madeCells #[.bool false] l.length) 4)) #[.slice (some ⟨w.heap.size,0,none⟩) l.length l.length] 27;simp only[World.size_alloc] at this;exact this
  have:=Row.new w (madeCells #[.bool false] l.length) 4;rw[rB] at this;exact Row.alloc _ (by simpa [bg] using this)
 case round=>
  obtain⟨m,hm,rfl,hg,yU,vs,fe,hinv⟩:=hrel;have HG:=aa hg;have HR:=aa fe;have HI:=aa hinv;have HB:=aa yU;have b0:=yU.cell 0 (by simp);have b1:=yU.has;have r2:=fe.has;simp only[List.getElem_cons_zero] at b0;clear hg fe hinv yU;by_cases aA:m<d.length
  ·obtain⟨b,o,rfl,⟨t0,_⟩,⟨t1,_⟩,⟨t2,_⟩,⟨t3,_⟩⟩:=bP H1.out HG.out m aA;have og:=HD.out m aA;obtain⟨sn,mQ⟩:=Int.eq_ofNat_of_zero_le og.1;have SN:=aa mQ;rw[mQ] at t0;have eX:sn<l.length:=by omega
   clear mQ og;have zH:sn<vs.length:=by have:=HI.out.1;omega
   have s0:=HR.out.bat sn zH;have s1:=HR.out.free sn;have gl:(sn:Int)<l.length:=by omega
   have gl0:(0:Int)<=sn:=by omega
   gi_wp2_with fail;go_roundw;case rel=>
    refine⟨m+1,by omega,by go_num,?_,?_,vs.set sn true,?_,HI.out.step aA sn SN.out⟩
    ·repeat(first|with_reducible exact HG.out|with_reducible refine Gr.setc (by omega) ?_|with_reducible refine Gr.alloc _ ?_)
    ·repeat(first|with_reducible exact HB.out|with_reducible refine Row.alloc _ ?_|with_reducible refine Row.oth ?_ (by omega))
    repeat(first|with_reducible exact HR.out.bset sn true|with_reducible refine Row.alloc _ ?_|with_reducible refine Row.oth ?_ (by omega))
   case measure=>simp[intOf];omega
  have hmd:m=d.length:=by omega
  subst hmd;have HI0:=aa HI.out.inv;clear HI;gi_wp2_with (refine⟨trivial,?_⟩;gi_at_call 166;refine(xB Fence.wide _ trivial rfl _ _ _ _).mono ?_;rintro e w' ⟨rfl,rfl⟩);obtain⟨b,al,cl,hbS,vP,hS⟩:=Ao H.out (HG.out.alloc (.cells #[.slice ao l.length cap] 26)) wr.heap.size (by simp);refine wpIn_rangeFunc_ownH rfl (by omega) (gf:=186) (lb:= #[.pointer (some ⟨wr.heap.size,0,none⟩)]) rfl trivial (enters_of Tryz.func186 (by kernel_rfl) rfl)
   (sY Fence.wide _ trivial rfl (by omega) wr.heap.size b cap ao l al cl hf _ (by simp) hbS (by simp[go_sem]) hS) (fun h k=>h.trans k) (FM hbS (by simp)) (Below.refl _ _) (fun _=>rfl)
   (fun pre W=>((∃vs,Row W w.heap.size 4 (bg vs)/\vs.length=l.length/\∀k,k<=l.length->pre=jO l.length k->nm l d (fun j=>∃x∈d,x.supply=(j:Int)) (l.length-k) vs)/\Row W (w.heap.size+1) 27 [.slice (some ⟨w.heap.size,0,none⟩) l.length l.length])/\(Below w.heap.size w W/\wr.heap.size+1<=W.heap.size))
   (fun _ _ _=>False)
   (OwnFrom.and (Own.from (fun s X Y rw' hs hg hr=>⟨(by obtain⟨vs,q1,q2⟩:=hs.1;exact⟨vs,jR (β:=Unit) _ _ (fun _=>_) () X Y rw' q1 hg hr,q2⟩),jR (β:=Unit) _ _ (fun _=>_) () X Y rw' hs.2 hg hr⟩) _) (OwnFrom.and (ownFrom_below (Nat.le_refl _) (by have:=HG.out.size;simp;omega)) (fun _ X Y rw' hs hg hr=>Nat.le_trans hs hg.size)))
   (fun _ _ _ _ _ hs _ _=>hs.elim)
   ⟨⟨⟨vs,HR.out.alloc _,HI0.out.1,fun k hk e=>?_⟩,HB.out.alloc _⟩,(HG.out.alloc _).below,by simp⟩
   (fun x a' W=>∃Bx,wr.heap.size<Bx/\Row W Bx 81 (svs l al cl x)/\a'={tmps:= #[.slice ao l.length cap,.slice a1 d.length c1,undef,undef,.slice none 0 0,.pointer (some ⟨w.heap.size+1,0,none⟩),undef,u7,.int .i64 (x.1:Int),.pointer (some ⟨Bx,0,none⟩),.slice ao l.length cap,.int .i64 l.length,.slice (some ⟨w.heap.size,0,none⟩) l.length l.length,.slice a1 d.length c1,.int .i64 d.length,.int .i64 d.length,.bool false,u17,u18,u19,u20,u21,u22,u23,.slice ao l.length cap,.func (.func 186) #[] #[.pointer (some ⟨wr.heap.size,0,none⟩)],.int .i64 (x.1:Int),sv l al cl x,undef,undef,undef,undef,undef,undef,undef,undef,undef,undef,undef,undef,undef,undef,undef,undef,undef,undef,undef,undef,undef,undef,undef,undef,undef],defers:= []})
   (fun x a' s X Y rw' hs hg hr=>by obtain⟨Bx,q1,q2,q3⟩:=hs;exact⟨Bx,q1,jR (β:=Unit) _ _ (fun _=>_) () X Y rw' q2 hg (fun r e=>(hr r e).2),q3⟩) ?assign ?body ?done ?stop
  case assign=>rintro lp pre x W K hi hK;obtain⟨⟨⟨vs',kF,wB,vV⟩,ij⟩,hB',El⟩:=hi;simp only[sv];gi_wp2;refine hK _ _ ((KeepsOthers.alloc _ _).from _) ⟨Below.heap_alloc _ _ _ (by simp at hbS;omega),Below.heap_alloc _ _ _ (by omega)⟩ ⟨⟨⟨vs',kF.alloc _,wB,vV⟩,ij.alloc _⟩,hB'.alloc hB'.size _,by simp;omega⟩ ⟨W.heap.size,by omega,Row.new W _ _,rfl⟩
  case body=>
   rintro lp pre x a' W hlp hrec ⟨⟨⟨vs',kF,wB,vV⟩,ij⟩,hB',El⟩ ⟨Bx,hBx,bX,rfl⟩ tT;have jp:=x.2;have Aw:x.1<vs'.length:=by omega
   have hbw':=vP (by omega);have pr:=OK.out x.1 jp;obtain⟨_,⟨pr1,pr2,_⟩,_⟩:=pr;have HR':=aa kF;have HB1:=aa ij;have HU:=aa vV;have BX:=aa bX;have BB:=aa hB';have x0:=bX.cell 0 (by simp[svs]);have x4:=bX.cell 4 (by simp[svs]);have xh:=bX.has;have bb:=ij.cell 0 (by simp);have bh:=ij.has;have v0:=kF.bat x.1 Aw;have v1:=kF.free x.1;have vh:=kF.has;simp only[svs,List.getElem_cons_zero,List.getElem_cons_succ] at x0 x4 bb;have g0:(0:Int)<=x.1:=by omega
   have g1:(x.1:Int)<l.length:=by omega
   clear kF ij vV bX hB';have iB:w.heap.size+1<wr.heap.size:=b1;have bS:Bx≠w.heap.size:=by omega
   have hne1:w.heap.size+1≠w.heap.size:=by omega
   have fin:∀(Bq:Nat) (vs2:List Bool) (W':World),kV w.heap.size W W'->Row W' w.heap.size 4 (bg vs2)->vs2.length=l.length->(∀k0,k0<l.length->x.1=l.length-1-k0->nm l d (fun j=>∃x∈d,x.supply=(j:Int)) (x.1+1) vs'->nm l d (fun j=>∃x∈d,x.supply=(j:Int)) x.1 vs2)->
     KeepsFrom Bq W W'/\km b wr.heap.size W W'/\((∃vs,Row W' w.heap.size 4 (bg vs)/\vs.length=l.length/\∀k,k<=l.length->pre++ [x]=jO l.length k->nm l d (fun j=>∃x∈d,x.supply=(j:Int)) (l.length-k) vs)/\Row W' (w.heap.size+1) 27 [.slice (some ⟨w.heap.size,0,none⟩) l.length l.length])/\(Below w.heap.size w W'/\wr.heap.size+1<=W'.heap.size):=by
    intro Bq vs2 W' ho fe gO kX;refine⟨ho.ko.from _,ho.keep2 (by omega) (by omega),⟨⟨vs2,fe,gO,fun k hk e=>?_⟩,ho.row HB1.out (by omega)⟩,ho.below BB.out (Nat.le_refl _),Nat.le_trans El ho.ko.size⟩;obtain⟨k0,rfl,e2,e3,e4⟩:=ug hk e;have q:=kX k0 e4 e3 (by have:=HU.out k0 (by omega) e2;rwa [show l.length-k0=x.1+1 by omega] at this);rwa [show l.length-(k0+1)=x.1 by omega]
   have FIN:=aa fin;clear fin;obtain⟨bv,hbv⟩:∃bv,(vs'[x.1]||l[x.1].always)=bv:=⟨_,rfl⟩;have HBV:=aa hbv;have HUR:∀q:nm l d (fun j=>∃x∈d,x.supply=(j:Int)) (x.1+1) vs',bv=true↔fF l d x.1:=fun q=>by rw[<-HBV.out];exact Oh q jp Aw
   have HUR:=aa HUR;have v0':∀v,((W.setCell ⟨w.heap.size,x.1,none⟩ v).drew).cell? ⟨Bx,0,none⟩=some (.int .i64 l[x.1].parent):=fun v=>by
    rw[cell_drew_own,World.cell?_setCell_other]
    ·exact x0
    simp[bS]
   rcases(by cases bv<;>cases hv:vs'[x.1]<;>cases ha:l[x.1].always<;>simp_all:(vs'[x.1]=true/\bv=true)∨(vs'[x.1]=false/\l[x.1].always=true/\bv=true)∨(vs'[x.1]=false/\l[x.1].always=false/\bv=false)) with⟨hv,rfl⟩|⟨hv,ha,rfl⟩|⟨hv,ha,rfl⟩
   ·rw[hv] at v0;by_cases hp:0<=l[x.1].parent
    ·obtain⟨p,iy⟩:=Int.eq_ofNat_of_zero_le hp;have PP:=aa iy;rw[iy] at x0 v0' pr1 pr2;clear iy hp;have hpx:p<x.1:=(by omega);have dw:(p:Int)<l.length:=(by omega);have z9:(0:Int)<=p:=(by omega);have vp:=HR'.out.free p;have vpc:=HR'.out.bat p (by omega);have hpn:x.1≠p:=(by omega);gi_wp2_with fail;refine eP 11 (by kernel_rfl) (by kernel_rfl) (by kernel_rfl) ?_;simp only[List.take_succ_cons,List.take_zero,List.drop_succ_cons,List.drop_zero];repeat(go_big_quiet_step (fail))
     refine wpQuiet_nil ?_;gi_wp2_with fail;exact FIN.out _ ((vs'.set x.1 true).set p true) _ (kV.refl _ _).set.set.drew (by with_reducible refine Row.drew ?_;with_reducible refine Row.bset ?_ _ _;exact HR'.out.bset x.1 true) (by simpa using wB) (fun k0 h1 h2 q=>q.step1 jp true (by simpa using HUR.out q) rfl p PP.out hpx)
    have zD:l[x.1].parent<0:=(by omega);clear hp;gi_wp2_with fail;refine eP 11 (by kernel_rfl) (by kernel_rfl) (by kernel_rfl) ?_;simp only[List.take_succ_cons,List.take_zero,List.drop_succ_cons,List.drop_zero];repeat(go_big_quiet_step (fail))
    refine wpQuiet_nil ?_;gi_wp2_with fail;exact FIN.out _ (vs'.set x.1 true) _ (kV.refl _ _).set.drew (by with_reducible refine Row.drew ?_;exact HR'.out.bset x.1 true) (by simpa using wB) (fun k0 h1 h2 q=>q.step0 jp true (by simpa using HUR.out q) (by omega))
   ·rw[hv] at v0;rw[ha] at x4;by_cases hp:0<=l[x.1].parent
    ·obtain⟨p,iy⟩:=Int.eq_ofNat_of_zero_le hp;have PP:=aa iy;rw[iy] at x0 v0' pr1 pr2;clear iy hp;have hpx:p<x.1:=(by omega);have dw:(p:Int)<l.length:=(by omega);have z9:(0:Int)<=p:=(by omega);have vp:=HR'.out.free p;have vpc:=HR'.out.bat p (by omega);have hpn:x.1≠p:=(by omega);gi_wp2_with fail;refine eP 11 (by kernel_rfl) (by kernel_rfl) (by kernel_rfl) ?_;simp only[List.take_succ_cons,List.take_zero,List.drop_succ_cons,List.drop_zero];repeat(go_big_quiet_step (fail))
     refine wpQuiet_nil ?_;gi_wp2_with fail;exact FIN.out _ ((vs'.set x.1 true).set p true) _ (kV.refl _ _).set.set.drew (by with_reducible refine Row.drew ?_;with_reducible refine Row.bset ?_ _ _;exact HR'.out.bset x.1 true) (by simpa using wB) (fun k0 h1 h2 q=>q.step1 jp true (by simpa using HUR.out q) rfl p PP.out hpx)
    have zD:l[x.1].parent<0:=(by omega);clear hp;gi_wp2_with fail;refine eP 11 (by kernel_rfl) (by kernel_rfl) (by kernel_rfl) ?_;simp only[List.take_succ_cons,List.take_zero,List.drop_succ_cons,List.drop_zero];repeat(go_big_quiet_step (fail))
    refine wpQuiet_nil ?_;gi_wp2_with fail;exact FIN.out _ (vs'.set x.1 true) _ (kV.refl _ _).set.drew (by with_reducible refine Row.drew ?_;exact HR'.out.bset x.1 true) (by simpa using wB) (fun k0 h1 h2 q=>q.step0 jp true (by simpa using HUR.out q) (by omega))
   rw[hv] at v0;rw[ha] at x4;gi_wp2_with fail;refine eP 11 (by kernel_rfl) (by kernel_rfl) (by kernel_rfl) ?_;simp only[List.take_succ_cons,List.take_zero,List.drop_succ_cons,List.drop_zero];repeat(go_big_quiet_step (fail))
   refine wpQuiet_nil ?_;gi_wp2_with fail;exact FIN.out _ (vs'.set x.1 false) _ (kV.refl _ _).set.drew (by with_reducible refine Row.drew ?_;exact HR'.out.bset x.1 false) (by simpa using wB) (fun k0 h1 h2 q=>q.step0 jp false (by simpa using HUR.out q) (by simp))
  case done=>
   rintro D ys W hD rfl ⟨⟨⟨vs',kF,wB,vV⟩,ij⟩,hB',El⟩ hK;have hu:=vV l.length (Nat.le_refl _) rfl;rw[Nat.sub_self] at hu;have AL:=hu.done;subst AL;have HR':=aa kF;have HB1:=aa ij;have bb:=ij.cell 0 (by simp);have bh:=ij.has;simp only[List.getElem_cons_zero] at bb;clear kF ij vV hu;gi_wp2_with fail;refine⟨by simp,.inl ⟨_,_,rfl,run_takeDeferred hK,?_⟩⟩;have hB2:=hB'.trans (belowK_b (w:=w) (Nat.le_refl _) W D (.deferred (some [])) (.deferred none) (by have:=HG.out.size;simp at hD;omega) hK rfl rfl);have hrw:=jR (β:=Unit) w.heap.size 4 (fun _=>bg (cH l d)) () W (W.putObj D (.deferred none)) (some D) HR'.out (grownBy_putObj' _ D (.deferred none)) (fun r e=>by cases e;exact⟨_,hK,rfl⟩);refine⟨_,results_tmp rfl _ _ _,some ⟨w.heap.size,0,none⟩,l.length,?_,by rw[bN];exact Nat.le_refl _,by rw[bN];unfold Fit;omega,?_,.of_below hB2⟩
   ·rw[bN];rfl
   exact hrw.slB
  case stop=>exact fun D c pre W _ _ h _=>h.elim
  have:=congrArg List.length e;rw[rD _ _ hk] at this;simp at this;subst this;exact HI0.out
attribute [local go_sem] Oper.semAt_some
def yC(l:List Sup)(d:List Drw)(m:Nat)(vs:List Int):Prop:=vs.length=l.length/\∀j (h:j<vs.length),vs[j]=jL d j m
theorem yC.start(l:List Sup)(d:List Drw):yC l d 0 (List.replicate l.length 0):=⟨by simp,fun j h=>by simp[jL]⟩
theorem yC.step{l:List Sup}{d:List Drw}{m:Nat}{vs:List Int}(h:yC l d m vs)(hm:m<d.length)(s:Nat)(hs:d[m].supply=(s:Int))(hv:s<vs.length):yC l d (m+1) (vs.set s (vs[s]+d[m].load)):=by
 refine⟨by simpa using h.1,fun j hj=>?_⟩;simp only[List.length_set] at hj;have lI:=h.2 j hj;simp only[jL,hm,dif_pos];by_cases e:s=j
 ·subst e;rw[List.getElem_set_self,h.2 s hv,if_pos hs]
 rw[List.getElem_set_ne e,lI,if_neg (by omega)];omega
theorem yC.inv{l:List Sup}{d:List Drw}{vs:List Int}(h:yC l d d.length vs):mq l d (fun j=>own d j) l.length vs:=by
 refine⟨h.1,fun j hj=>⟨fun q=>?_,fun _=>?_⟩⟩
 ·have:=h.1;omega
 rw[h.2 j hj,Rd];show jL d j d.length=own d j+0;unfold own;omega
theorem Ed{l:List Sup}{d:List Drw}{i:Nat}{vs:List Int}(h:mq l d (fun j=>own d j) (i+1) vs)(hi:i<l.length)(hv:i<vs.length):vs[i]=ld l d i:=by rw[(h.2 i hv).2 (by omega),On l d i hi]
theorem Hv{l:List Sup}{d:List Drw}{i:Nat}{vs:List Int}(h:mq l d (fun j=>own d j) (i+1) vs)(hi:i<l.length)(hv:i<vs.length):vs.set i (ld l d i)=vs:=by rw[<-Ed h hi hv];simp
theorem QK(l:List Sup)(d:List Drw)(ao a1:Option Addr)(cap c1:Nat)(w:World)(h:ag 5 bG w ao l)(hf:l.length<=16)(hok:gz l)(h1:ag 4 cX w a1 d)(f1:d.length<=32)(hd:∀k (hk:k<d.length),0<=d[k].supply/\d[k].supply<l.length)(hd2:∀k (h:k<d.length),0<=d[k].load/\d[k].load<=10000):
  Calls Tryz.prog 160 #[.slice ao l.length cap,.slice a1 d.length c1] w (By 1 RI w (pQ l d)):=by
 have H:=aa h;have H1:=aa h1;have OK:=aa hok;have HD:=aa hd;have HD2:=aa hd2;clear h h1 hok hd hd2;have jV:=run_make_row' (P:=Tryz.prog) 22 3 (.int .i64 0) 8 Tryz.underlying22 eS rfl .i64 .i64 l.length (by omega) (by omega);refine(callsIn_wide (n:=3)).1 ?_;refine callsIn_of_wp_marks Tryz.func160 rfl trivial ?_ rfl;simp only[Tryz.ntmps160,List.size_toArray,List.length_cons,List.length_nil,Nat.reduceAdd,Nat.reduceSub,Array.replicate_succ,Array.replicate_zero,List.push_toArray,List.append_toArray,List.nil_append,List.cons_append];gi_wp2_with fail;clear jV
 gi_loopw [15] (fun i wr=>∃m:Nat,m<=d.length/\i= .int .i64 m/\Gr w wr/\Row wr (w.heap.size+1) 22 [.slice (some ⟨w.heap.size,0,none⟩) l.length l.length]/\∃vs,Row wr w.heap.size 3 (an vs)/\yC l d m vs) (fun i _=>d.length-(intOf i).toNat)
 case atStart=>
  refine⟨0,Nat.zero_le _,rfl,((gfl _).alloc _).alloc _,?_,List.replicate l.length 0,?_,yC.start l d⟩
  ·have:=Row.new (w.alloc (.cells (madeCells #[.int .i64 0] l.length) 3)) #[.slice (some ⟨w.heap.size,0,none⟩) l.length l.length] 22;simp only[World.size_alloc] at this;exact this
  have:=Row.new w (madeCells #[.int .i64 0] l.length) 3;rw[rB] at this;exact Row.alloc _ (by simpa [an] using this)
 case round=>
  obtain⟨m,hm,rfl,hg,yU,vs,fe,hinv⟩:=hrel;have HG:=aa hg;have HR:=aa fe;have HI:=aa hinv;have HB:=aa yU;have b0:=yU.cell 0 (by simp);have b1:=yU.has;have r2:=fe.has;simp only[List.getElem_cons_zero] at b0;clear hg fe hinv yU;by_cases aA:m<d.length
  ·obtain⟨b,o,rfl,⟨t0,_⟩,⟨t1,_⟩,⟨t2,_⟩,⟨t3,_⟩⟩:=bP H1.out HG.out m aA;have og:=HD.out m aA;obtain⟨sn,mQ⟩:=Int.eq_ofNat_of_zero_le og.1;have SN:=aa mQ;rw[mQ] at t0;have eX:sn<l.length:=by omega
   clear mQ og;have zH:sn<vs.length:=by have:=HI.out.1;omega
   have s0:=HR.out.iat sn zH;have s1:=HR.out.free sn;have gl:(sn:Int)<l.length:=by omega
   have gl0:(0:Int)<=sn:=by omega
   have hvv:=HI.out.2 sn zH;have ow:=uA d HD2.out sn m;rw[<-hvv] at ow;have Ip:=HD2.out m aA;have ow0:=ow.1;have ow1:vs[sn]<=320000:=by omega
   have l0:=Ip.1;have l1:=Ip.2;clear hvv ow Ip;gi_wp2_with fail;refine wpIn_wide.2 ?_;go_region;all_goals gi_wp2_with fail
   all_goals go_roundw
   case rel=>
    refine⟨m+1,by omega,by go_num,?_,?_,vs.set sn (vs[sn]+d[m].load),?_,HI.out.step aA sn SN.out zH⟩
    ·repeat(first|with_reducible exact HG.out|with_reducible refine Gr.drew ?_|with_reducible refine Gr.setc (by omega) ?_|with_reducible refine Gr.alloc _ ?_)
    ·repeat(first|with_reducible exact HB.out|with_reducible refine Row.drew ?_|with_reducible refine Row.alloc _ ?_|with_reducible refine Row.oth ?_ (by omega))
    repeat(first|with_reducible exact HR.out.iset sn _|with_reducible refine Row.drew ?_|with_reducible refine Row.alloc _ ?_|with_reducible refine Row.oth ?_ (by omega))
   case measure=>simp[intOf];omega
  have hmd:m=d.length:=by omega
  subst hmd;have HI0:=aa HI.out.inv;clear HI;gi_wp2_with (refine⟨trivial,?_⟩;gi_at_call 166;refine(xB Fence.wide _ trivial rfl _ _ _ _).mono ?_;rintro e w' ⟨rfl,rfl⟩);obtain⟨b,al,cl,hbS,vP,hS⟩:=Ao H.out (HG.out.alloc (.cells #[.slice ao l.length cap] 26)) wr.heap.size (by simp);refine wpIn_rangeFunc_ownH rfl (by omega) (gf:=186) (lb:= #[.pointer (some ⟨wr.heap.size,0,none⟩)]) rfl trivial (enters_of Tryz.func186 (by kernel_rfl) rfl)
   (sY Fence.wide _ trivial rfl (by omega) wr.heap.size b cap ao l al cl hf _ (by simp) hbS (by simp[go_sem]) hS) (fun h k=>h.trans k) (FM hbS (by simp)) (Below.refl _ _) (fun _=>rfl)
   (fun pre W=>((∃vs,Row W w.heap.size 3 (an vs)/\vs.length=l.length/\∀k,k<=l.length->pre=jO l.length k->mq l d (fun j=>own d j) (l.length-k) vs)/\Row W (w.heap.size+1) 22 [.slice (some ⟨w.heap.size,0,none⟩) l.length l.length])/\(Below w.heap.size w W/\wr.heap.size+1<=W.heap.size))
   (fun _ _ _=>False)
   (OwnFrom.and (Own.from (fun s X Y rw' hs hg hr=>⟨(by obtain⟨vs,q1,q2⟩:=hs.1;exact⟨vs,jR (β:=Unit) _ _ (fun _=>_) () X Y rw' q1 hg hr,q2⟩),jR (β:=Unit) _ _ (fun _=>_) () X Y rw' hs.2 hg hr⟩) _) (OwnFrom.and (ownFrom_below (Nat.le_refl _) (by have:=HG.out.size;simp;omega)) (fun _ X Y rw' hs hg hr=>Nat.le_trans hs hg.size)))
   (fun _ _ _ _ _ hs _ _=>hs.elim)
   ⟨⟨⟨vs,HR.out.alloc _,HI0.out.1,fun k hk e=>?_⟩,HB.out.alloc _⟩,(HG.out.alloc _).below,by simp⟩
   (fun x a' W=>∃Bx,wr.heap.size<Bx/\Row W Bx 81 (svs l al cl x)/\a'={tmps:= #[.slice ao l.length cap,.slice a1 d.length c1,undef,undef,.slice none 0 0,.pointer (some ⟨w.heap.size+1,0,none⟩),undef,u7,.int .i64 (x.1:Int),.pointer (some ⟨Bx,0,none⟩),.slice ao l.length cap,.int .i64 l.length,.slice (some ⟨w.heap.size,0,none⟩) l.length l.length,.slice a1 d.length c1,.int .i64 d.length,.int .i64 d.length,.bool false,u17,u18,u19,u20,u21,u22,u23,u24,u25,u26,u27,u28,.slice ao l.length cap,.func (.func 186) #[] #[.pointer (some ⟨wr.heap.size,0,none⟩)],.int .i64 (x.1:Int),sv l al cl x,undef,undef,undef,undef,undef,undef,undef,undef,undef,undef,undef,undef,undef,undef,undef],defers:= []})
   (fun x a' s X Y rw' hs hg hr=>by obtain⟨Bx,q1,q2,q3⟩:=hs;exact⟨Bx,q1,jR (β:=Unit) _ _ (fun _=>_) () X Y rw' q2 hg (fun r e=>(hr r e).2),q3⟩) ?assign ?body ?done ?stop
  case assign=>rintro lp pre x W K hi hK;obtain⟨⟨⟨vs',kF,wB,vV⟩,ij⟩,hB',El⟩:=hi;simp only[sv];gi_wp2;refine hK _ _ ((KeepsOthers.alloc _ _).from _) ⟨Below.heap_alloc _ _ _ (by simp at hbS;omega),Below.heap_alloc _ _ _ (by omega)⟩ ⟨⟨⟨vs',kF.alloc _,wB,vV⟩,ij.alloc _⟩,hB'.alloc hB'.size _,by simp;omega⟩ ⟨W.heap.size,by omega,Row.new W _ _,rfl⟩
  case body=>
   rintro lp pre x a' W hlp hrec ⟨⟨⟨vs',kF,wB,vV⟩,ij⟩,hB',El⟩ ⟨Bx,hBx,bX,rfl⟩ tT;have jp:=x.2;have Aw:x.1<vs'.length:=by omega
   have hbw':=vP (by omega);have pr:=OK.out x.1 jp;obtain⟨_,⟨pr1,pr2,_⟩,_⟩:=pr;have HR':=aa kF;have HB1:=aa ij;have HU:=aa vV;have BX:=aa bX;have BB:=aa hB';have x0:=bX.cell 0 (by simp[svs]);have x4:=bX.cell 4 (by simp[svs]);have xh:=bX.has;have bb:=ij.cell 0 (by simp);have bh:=ij.has;have v0:=kF.iat x.1 Aw;have v1:=kF.free x.1;have vh:=kF.has;simp only[svs,List.getElem_cons_zero,List.getElem_cons_succ] at x0 x4 bb;have g0:(0:Int)<=x.1:=by omega
   have g1:(x.1:Int)<l.length:=by omega
   clear kF ij vV bX hB';have iB:w.heap.size+1<wr.heap.size:=b1;have bS:Bx≠w.heap.size:=by omega
   have hne1:w.heap.size+1≠w.heap.size:=by omega
   have fin:∀(Bq:Nat) (vs2:List Int) (W':World),kV w.heap.size W W'->Row W' w.heap.size 3 (an vs2)->vs2.length=l.length->(∀k0,k0<l.length->x.1=l.length-1-k0->mq l d (fun j=>own d j) (x.1+1) vs'->mq l d (fun j=>own d j) x.1 vs2)->
     KeepsFrom Bq W W'/\km b wr.heap.size W W'/\((∃vs,Row W' w.heap.size 3 (an vs)/\vs.length=l.length/\∀k,k<=l.length->pre++ [x]=jO l.length k->mq l d (fun j=>own d j) (l.length-k) vs)/\Row W' (w.heap.size+1) 22 [.slice (some ⟨w.heap.size,0,none⟩) l.length l.length])/\(Below w.heap.size w W'/\wr.heap.size+1<=W'.heap.size):=by
    intro Bq vs2 W' ho fe gO kX;refine⟨ho.ko.from _,ho.keep2 (by omega) (by omega),⟨⟨vs2,fe,gO,fun k hk e=>?_⟩,ho.row HB1.out (by omega)⟩,ho.below BB.out (Nat.le_refl _),Nat.le_trans El ho.ko.size⟩;obtain⟨k0,rfl,e2,e3,e4⟩:=ug hk e;have q:=kX k0 e4 e3 (by have:=HU.out k0 (by omega) e2;rwa [show l.length-k0=x.1+1 by omega] at this);rwa [show l.length-(k0+1)=x.1 by omega]
   have FIN:=aa fin;clear fin;by_cases hp:0<=l[x.1].parent
   ·obtain⟨p,iy⟩:=Int.eq_ofNat_of_zero_le hp;have PP:=aa iy;rw[iy] at x0 pr1 pr2;clear iy hp;have hpx:p<x.1:=(by omega);have dw:(p:Int)<l.length:=(by omega);have z9:(0:Int)<=p:=(by omega);have hpv:p<vs'.length:=(by omega);have vp:=HR'.out.free p;have vpc:=HR'.out.iat p hpv;by_cases hq:mq l d (fun j=>own d j) (x.1+1) vs'
    ·have e1:=Ed hq jp Aw;have e2:=(hq.2 p hpv).2 (by omega);have q1:=CZ l d HD2.out f1 hf x.1 jp;have q2:=Dh l d HD2.out f1 hf (x.1+1) p;have q3:=uA d HD2.out p d.length;have E2:vs'[p]=own d p+up l d (x.1+1) p:=e2;unfold own at E2;rw[<-e1] at q1;have a0:=q1.1;have a1':=q1.2;have a2:0<=vs'[p]:=(by omega);have a3:vs'[p]<=30000000000:=(by omega);have E1:=aa e1;have HQ:=aa hq;clear e1 e2 E2 q1 q2 q3 hq;gi_wp2_with fail;refine eP 11 (by kernel_rfl) (by kernel_rfl) (by kernel_rfl) ?_;simp only[List.take_succ_cons,List.take_zero,List.drop_succ_cons,List.drop_zero];repeat(go_big_quiet_step (fail))
     refine wpQuiet_nil ?_;gi_wp2_with fail;refine FIN.out _ (vs'.set p (vs'[p]+vs'[x.1])) _ (kV.refl _ _).set.drew (by with_reducible refine Row.drew ?_;exact HR'.out.iset p _) (by simpa using wB) (fun k0 h1 h2 q=>?_);have:=q.step1 jp p PP.out hpx hpv;rw[Hv q jp Aw] at this;rw[E1.out];exact this
    have HQ:=aa hq;clear hq;gi_wp2_with fail;refine eP 11 (by kernel_rfl) (by kernel_rfl) (by kernel_rfl) ?_;simp only[List.take_succ_cons,List.take_zero,List.drop_succ_cons,List.drop_zero];repeat(go_big_quiet_step (fail))
    refine wpQuiet_nil ?_;gi_wp2_with fail;refine FIN.out _ (vs'.set p _) _ (kV.refl _ _).set.drew (by with_reducible refine Row.drew ?_;exact HR'.out.iset p _) (by simpa using wB) (fun k0 h1 h2 q=>absurd q HQ.out)
   have zD:l[x.1].parent<0:=by omega
   clear hp;gi_wp2_with fail;refine FIN.out _ vs' _ (kV.refl _ _) HR'.out wB (fun k0 h1 h2 q=>?_);have:=q.step0 jp zD;rw[Hv q jp Aw] at this;exact this
  case done=>
   rintro D ys W hD rfl ⟨⟨⟨vs',kF,wB,vV⟩,ij⟩,hB',El⟩ hK;have hu:=vV l.length (Nat.le_refl _) rfl;rw[Nat.sub_self] at hu;have AL:=hu.done;subst AL;have HR':=aa kF;have HB1:=aa ij;have bb:=ij.cell 0 (by simp);have bh:=ij.has;simp only[List.getElem_cons_zero] at bb;clear kF ij vV hu;gi_wp2_with fail;refine⟨by simp,.inl ⟨_,_,rfl,run_takeDeferred hK,?_⟩⟩;have hB2:=hB'.trans (belowK_b (w:=w) (Nat.le_refl _) W D (.deferred (some [])) (.deferred none) (by have:=HG.out.size;simp at hD;omega) hK rfl rfl);have hrw:=jR (β:=Unit) w.heap.size 3 (fun _=>an (pQ l d)) () W (W.putObj D (.deferred none)) (some D) HR'.out (grownBy_putObj' _ D (.deferred none)) (fun r e=>by cases e;exact⟨_,hK,rfl⟩);refine⟨_,results_tmp rfl _ _ _,some ⟨w.heap.size,0,none⟩,l.length,?_,by rw[iK];exact Nat.le_refl _,by rw[iK];unfold Fit;omega,?_,.of_below hB2⟩
   ·rw[iK];rfl
   refine hrw.slI fun k hk=>?_;have b:=CZ l d HD2.out f1 hf k (by rw[iK] at hk;exact hk);rw[wR];unfold aK;omega
  case stop=>exact fun D c pre W _ _ h _=>h.elim
  have:=congrArg List.length e;rw[rD _ _ hk] at this;simp at this;subst this;exact HI0.out
end
section
open Go.RowKit
open Classical
theorem yt{l:List Sup}{r:Rls}{w:World}{ao a2:Option Addr}(h:ag 5 bG w ao l)(h2:ag 1 RI w a2 r.level)(hr:bL l r)(k:Nat)(hk:k<l.length):
  ∃b o b2 o2 b3 o3 cl n,ao=some ⟨b,o,none⟩/\a2=some ⟨b2,o2,none⟩/\w.cell? ⟨b,o+k*5+1,none⟩=some (.slice (some ⟨b3,o3,none⟩) l[k].levels.length cl)/\w.cell? ⟨b2,o2+k,none⟩=some (.int .i64 (n:Nat))/\n<l[k].levels.length/\w.cell? ⟨b3,o3+n,none⟩=some (.int .i64 (vlt l r k)):=by
 obtain⟨k1,n,hn,gc,hv⟩:=tJ hr k hk;obtain⟨b,o,rfl,⟨c0,_⟩,⟨al,cl,q1,q1l,q1f,cL⟩,_⟩:=h k hk;obtain⟨b2,o2,rfl,⟨e1,_⟩⟩:=h2.one k k1;obtain⟨b3,o3,rfl,⟨e2,_⟩⟩:=cL.one n gc;rw[hn] at e1;exact⟨b,o,b2,o2,b3,o3,cl,n,rfl,rfl,q1,e1,gc,hv▸e2⟩
theorem Eu(l:List Sup)(r:Rls)(d:List Drw)(q0 q1:Nat)(ao a1 a2:Option Addr)(cap c1 c2:Nat)(w:World)(hc:w.cell? ⟨q0,0,none⟩=some (.slice ao l.length cap))(oC:w.cell? ⟨q1,1,none⟩=some (.slice a2 r.level.length c2))
  (h:ag 5 bG w ao l) (h2:ag 1 RI w a2 r.level) (hr:bL l r) (hd:b7 l d):
  iJ F0 161 #[.pointer (some ⟨q0,0,none⟩),.pointer (some ⟨q1,0,none⟩)] d (fun x=>¬mA l r x) w:=by
 rintro W v k hk hg rfl;have c0':=aB hg hc;have c1':=aB hg oC;have hh:=ae c0';have Cy:=ae c1';have og:=hd.2.2 k hk;unfold fq at og;obtain⟨sn,mQ⟩:=Int.eq_ofNat_of_zero_le og.1;have eX:sn<l.length:=by omega
 have Cu:=hr.2.2.1;obtain⟨b,o,b2,o2,b3,o3,cl,n,rfl,rfl,v1,v2,v3,v4⟩:=yt (aX h hg) (h2.giI hg) hr sn eX;have i1:=ae v1;have i2:=ae v2;have i3:=ae v4;have SN:=aa mQ;clear hc oC hg h h2 hr hd og;show Calls Tryz.prog 161 #[_,_,_] W _;generalize d[k]=x at*;rw[mQ];clear mQ;have g0:(0:Int)<=sn:=by omega
 have g1:(sn:Int)<l.length:=by omega
 have g2:(sn:Int)<r.level.length:=by omega
 have g3:(0:Int)<=n:=by omega
 have g4:(n:Int)<l[sn].levels.length:=by omega
 have e:decide (¬mA l r x)=(!decide (x.low<=vlt l r sn)||!decide (vlt l r sn<=x.high)):=by unfold mA;rw[SN.out,Int.toNat_natCast];by_cases q1:x.low<=vlt l r sn<;>by_cases q2:vlt l r sn<=x.high<;>simp[q1,q2]
 have E:=aa e;clear e;go_enter Tryz.func161,Tryz.ntmps161;go_wp2_with fail;refine ar (by kernel_rfl) (by kernel_rfl) ?_;repeat(go_big_quiet_step ((go_at_call 135;exact eA (jY _ _ _ _))))
 refine wpQuiet_nil ?_;rintro _ ⟨⟨O5,d5⟩,rfl⟩;go_wp2_with fail;go_ret;exact⟨ai (by rw[<-E.out];congr),grr⟩
theorem rv(l:List Sup)(r:Rls)(d:List Drw)(ao a1 a2 a3:Option Addr)(cap c1 c2 c3:Nat)(w:World)(h:ag 5 bG w ao l)(hf:Fit l.length)(h1:ag 1 RB w a1 r.on)(h2:ag 1 RI w a2 r.level)(h3:ag 4 cX w a3 d)(f1:Fit r.on.length)(f2:Fit r.level.length)(f3:Fit d.length):
  Calls Tryz.prog 113 #[.slice ao l.length cap,.agg #[.slice a1 r.on.length c1,.slice a2 r.level.length c2],.slice a3 d.length c3] w (aN w (.bool (decide (bi l r d)))):=by
 have H:=aa h;have H1:=aa h1;have H2:=aa h2;have H3:=aa h3;have HF:=aa hf;clear h h1 h2 h3 hf;by_cases hr:bL l r
 ·have rt:decide (bL l r)=true:=by simp[hr]
  have HR:=aa hr;clear hr;by_cases hd:b7 l d
  ·have wH:decide (b7 l d)=true:=by simp[hd]
   have e:decide (bi l r d)=decide (my l r d):=by simp[bi,hd,HR.out]
   have HD:=aa hd;have hz:=cW hd.1;have hf:l.length<=16:=by have:=hz.1;simp only[jI,not_or] at this;omega
   have OK:=aa hz.2;have f3':=hd.2.1;have nG:=aa HR.out.2.1;have ke:=aa HR.out.2.2.1;rw[e];clear hd e hz;go_enter Tryz.func113,Tryz.ntmps113;go_wp2_with fail;refine(tz l r ao a1 a2 cap c1 c2 _ (aX H.out grr) HF.out (H1.out.giB grr) (H2.out.giI grr) f1 f2).mono ?_;rw[rt];rintro e w' ⟨rfl,O1,d1,rfl⟩;go_wp2_with fail;refine(qd l d ao a3 cap c3 _ (aX H.out grr) HF.out (bP H3.out grr) f3).mono ?_;rw[wH];rintro e w' ⟨rfl,O2,d2,rfl⟩;go_upto_region 3 with fail;go_cut [7,8] (fun s7 s8 wx=>∃au cu al cl,s7= .slice au l.length cu/\s8= .slice al l.length cl/\ag 1 RB wx au (cH l d)/\ag 1 RI wx al (pQ l d)/\Gr ((w.alloc (.cells #[.slice ao l.length cap] 26)).alloc (.cells #[.slice a1 r.on.length c1,.slice a2 r.level.length c2] 29)) wx);case first=>
    go_region_with (first
     |(go_at_call 124;refine(De l d ao a3 cap c3 _ (aX H.out grr) hf OK.out (bP H3.out grr) f3' (fun k hk=>by have:=HD.out.2.2 k hk;unfold fq at this;omega)).mono ?_;rintro e w' ⟨au,cu,rfl,_,_,hu,O3,d3,rfl⟩;have HU:=aa hu;clear hu;rw[bN])
     |(go_at_call 160;refine(QK l d ao a3 cap c3 _ (aX H.out grr) hf OK.out (bP H3.out grr) f3' (fun k hk=>by have:=HD.out.2.2 k hk;unfold fq at this;omega) (fun k hk=>by have:=HD.out.2.2 k hk;unfold fq at this;omega)).mono ?_;rintro e w' ⟨al,cl,rfl,_,_,hl,O4,d4,rfl⟩;have HL:=aa hl;clear hl;rw[iK]))
    all_goals (go_wp2_with fail;go_meet)
    all_goals
     refine⟨au,cu,al,cl,rfl,rfl,?_,?_,grr⟩
     ·have:=HU.out.giB ((gfl _).xt O4 d4);simpa only[xt_xt,Array.append_assoc] using this
     have:=HL.out;simpa only[xt_xt,Array.append_assoc] using this
   obtain⟨au,cu,al,cl,rfl,rfl,hu,hl,hg⟩:=hcut;have HU:=aa hu;have HL:=aa hl;obtain⟨w0,rfl⟩:∃w0:World,w0=wc:=⟨_,rfl⟩;have e0:w0.cell? ⟨w.heap.size,0,none⟩=some (.slice ao l.length cap):=aB hg (by simp[go_sem]);have e1:w0.cell? ⟨w.heap.size+1,0,none⟩=some (.slice a1 r.on.length c1):=aB hg (by simp[go_sem]);have e2:w0.cell? ⟨w.heap.size+1,1,none⟩=some (.slice a2 r.level.length c2):=aB hg (by simp[go_sem]);have E0:=aa e0;have E1:=aa e1;have E2:=aa e2;have eh:=ae e0;have eh1:=ae e1;have HW0:Hid (Gr w w0):=aa ((((gfl w).alloc _).alloc _).trans hg);clear hu hl hg;go_wp2_with fail;clear e0 e1 e2 eh eh1;go_loopw [30] (fun i wr=>∃k:Nat,k<=l.length/\i= .int .i64 k/\(∀j,j<k->yc l d r j)/\Gr w0 wr) (fun i _=>l.length-(intOf i).toNat);case atStart=>exact⟨0,Nat.zero_le _,rfl,fun j q=>absurd q (by omega),gfl _⟩
   case round=>
    obtain⟨k,hk,rfl,aH,hg⟩:=hrel;have HA:=aa aH;have G0:=aa hg;have e0:=aB hg E0.out;have e1:=aB hg E1.out;have e2:=aB hg E2.out;have HG:Hid (Gr w wr):=aa (HW0.out.trans hg);have eh:=ae e0;have eh1:=ae e1;clear aH hg;by_cases aA:k<l.length
    ·have g0:(0:Int)<=k:=(by omega);have g1:(k:Int)<l.length:=(by omega);have g2:(k:Int)<r.on.length:=(by have:=nG.out;omega);have g2':(k:Int)<r.level.length:=(by have:=ke.out;omega);have lW:k<r.on.length:=(by omega);obtain⟨b,o,rfl,⟨c0,c0w,zM⟩,⟨av,cv,q1,q1l,q1f,cV⟩,⟨c2,c2w,c2x⟩,⟨c3,_⟩,c4⟩:=aX H.out HG.out k aA;unfold RB at c4;obtain⟨bu,ou,rfl,u1⟩:=(HU.out.giB G0.out).one k (by rw[bN];exact aA);rw[ri] at u1;unfold RB at u1;obtain⟨bl,ol,rfl,⟨v1,v1w,v1x⟩⟩:=(HL.out.giI G0.out).one k (by rw[iK];exact aA);rw[wR] at v1 v1w v1x;obtain⟨bo,oo,rfl,r1⟩:=(H1.out.giB HG.out).one k lW;unfold RB at r1;have r1':r.on[k]=aQ r k:=(bT lW).symm;rw[r1'] at r1;clear r1';have x1:=ae c0;have x2:=ae u1;have x3:=ae v1;have x4:=ae r1;obtain⟨uu,ua⟩:∃uu:Bool,decide (fF l d k)=uu:=⟨_,rfl⟩;obtain⟨oo',hoo⟩:∃oo':Bool,aQ r k=oo':=⟨_,rfl⟩;rw[ua] at u1;rw[hoo] at r1;have UU:=aa ua;have OO:=aa hoo;clear ua hoo;have HH:nt l[k] k:=(by obtain⟨_,q⟩:=OK.out k aA;exact q.1);have p1:=HH.2.1;have dr0:=HH.2.2.2.1;have dr1:=HH.2.2.2.2.1;clear HH;cases oo' with
     |false=>
      cases uu with
      |true=>go_wp2_with fail;go_ret;exact⟨ai (cj (jX aA (fun hm=>by have:=hm.1 (by simpa using UU.out);rw[OO.out] at this;cases this))),gri HG.out⟩
      |false=>
       go_wp2_with fail;go_roundw;case rel=>
        refine⟨k+1,by omega,by go_num,fun j hj=>?_,gri G0.out⟩;by_cases e:j=k
        ·subst e;exact⟨fun hu=>absurd hu (by simpa using UU.out),fun ho=>by rw[OO.out] at ho;cases ho⟩
        exact HA.out j (by omega)
       case measure=>simp[intOf];omega
     |true=>
      have OA:=aa (OO.out);clear uu u1 UU;by_cases hp:0<=l[k].parent
      ·obtain⟨p,iy⟩:=Int.eq_ofNat_of_zero_le hp;have PP:=aa iy;rw[iy] at c0 p1;clear iy hp c0w zM;have dw:p<l.length:=(by omega);have Ci:p<r.on.length:=(by omega);have g3:(p:Int)<r.on.length:=(by omega);have g4:(p:Int)<l.length:=(by omega);have g5:(p:Int)<r.level.length:=(by omega);have g6:(0:Int)<=p:=(by omega);obtain⟨bo2,oo2,e,r2⟩:=(H1.out.giB HG.out).one p Ci;cases e
       unfold RB at r2;have r2':r.on[p]=aQ r p:=(bT Ci).symm;rw[r2'] at r2;clear r2';have vk:=qY HR.out k aA;have vp:=qY HR.out p dw;obtain⟨b_,o_,b2,o2,b3,o3,cl3,n3,e,rfl,k1,k2,k3,k4⟩:=yt (aX H.out HG.out) (H2.out.giI HG.out) HR.out k aA;cases e
       obtain⟨b_,o_,b2_,o2_,b5,o5,cl5,n5,e,e',m1,m2,m3,m4⟩:=yt (aX H.out HG.out) (H2.out.giI HG.out) HR.out p dw;cases e
       cases e'
       have y1:=ae k2;have y2:=ae k4;have y3:=ae m4;have k3':(n3:Int)<l[k].levels.length:=(by omega);have m3':(n5:Int)<l[p].levels.length:=(by omega);have k0':(0:Int)<=n3:=(by omega);have m0':(0:Int)<=n5:=(by omega);have qav:Value.slice av l[k].levels.length cv= .slice (some ⟨b3,o3,none⟩) l[k].levels.length cl3:=(by rw[q1] at k1;simpa using k1);cases qav
       clear k1;obtain⟨op,yd⟩:∃op:Bool,aQ r p=op:=⟨_,rfl⟩;rw[yd] at r2;have OP:=aa yd;clear yd;cases op with
       |false=>
        go_wp2_with fail;refine ar (by kernel_rfl) (by kernel_rfl) ?_;repeat(go_big_quiet_step (fail))
        refine wpQuiet_nil ?_;rintro _ ⟨⟨O5,d5⟩,rfl⟩;go_wp2_with fail;go_ret;exact⟨ai (cj (jX aA (fun hm=>by have:=((hm.2 OA.out aA).2 (by rw[PP.out];omega)).1;rw[PP.out,Int.toNat_natCast,OP.out] at this;cases this))),gri HG.out⟩
       |true=>
        by_cases hv:vlt l r k+l[k].dropout<=vlt l r p
        ·have HV:=aa hv;have hvb:decide (vlt l r p<vlt l r k+l[k].dropout)=false:=(by simp;omega);clear hv;by_cases la:ld l d k<=l[k].capacity
         ·have HC:=aa la;have vz:decide (l[k].capacity<ld l d k)=false:=(by simp;exact la);clear la;go_wp2_with fail;refine ar (by kernel_rfl) (by kernel_rfl) ?_;repeat(go_big_quiet_step (fail))
          refine wpQuiet_nil ?_;rintro _ ⟨⟨O5,d5⟩,rfl⟩;go_wp2_with fail;go_roundw;case rel=>
           refine⟨k+1,by omega,by go_num,fun j hj=>?_,gri G0.out⟩;by_cases e:j=k
           ·subst e;exact⟨fun _=>OA.out,fun _ _=>⟨HC.out,fun _=>by rw[PP.out,Int.toNat_natCast];exact⟨OP.out,HV.out⟩⟩⟩
           exact HA.out j (by omega)
          case measure=>simp[intOf];omega
         have HC:=aa la;have vz:decide (l[k].capacity<ld l d k)=true:=(by simp;omega);clear la;go_wp2_with fail;refine ar (by kernel_rfl) (by kernel_rfl) ?_;repeat(go_big_quiet_step (fail))
         refine wpQuiet_nil ?_;rintro _ ⟨⟨O5,d5⟩,rfl⟩;go_wp2_with fail;go_ret;exact⟨ai (cj (jX aA (fun hm=>by have:=(hm.2 OA.out aA).1;have:=HC.out;omega))),gri HG.out⟩
        have HV:=aa hv;have hvb:decide (vlt l r p<vlt l r k+l[k].dropout)=true:=(by simp;omega);clear hv;go_wp2_with fail;refine ar (by kernel_rfl) (by kernel_rfl) ?_;repeat(go_big_quiet_step (fail))
        refine wpQuiet_nil ?_;rintro _ ⟨⟨O5,d5⟩,rfl⟩;go_wp2_with fail;go_ret;exact⟨ai (cj (jX aA (fun hm=>by have:=((hm.2 OA.out aA).2 (by rw[PP.out];omega)).2;rw[PP.out,Int.toNat_natCast] at this;have:=HV.out;omega))),gri HG.out⟩
      have HP:=aa hp;have Ez:decide (0<=l[k].parent)=false:=(by simp;omega);clear hp;by_cases la:ld l d k<=l[k].capacity
      ·have HC:=aa la;have vz:decide (l[k].capacity<ld l d k)=false:=(by simp;exact la);clear la;go_wp2_with fail;refine ar (by kernel_rfl) (by kernel_rfl) ?_;repeat(go_big_quiet_step (fail))
       refine wpQuiet_nil ?_;rintro _ ⟨⟨O5,d5⟩,rfl⟩;go_wp2_with fail;go_roundw;case rel=>
        refine⟨k+1,by omega,by go_num,fun j hj=>?_,gri G0.out⟩;by_cases e:j=k
        ·subst e;exact⟨fun _=>OA.out,fun _ _=>⟨HC.out,fun q=>by have:=HP.out;omega⟩⟩
        exact HA.out j (by omega)
       case measure=>simp[intOf];omega
      have HC:=aa la;have vz:decide (l[k].capacity<ld l d k)=true:=(by simp;omega);clear la;go_wp2_with fail;refine ar (by kernel_rfl) (by kernel_rfl) ?_;repeat(go_big_quiet_step (fail))
      refine wpQuiet_nil ?_;rintro _ ⟨⟨O5,d5⟩,rfl⟩;go_wp2_with fail;go_ret;exact⟨ai (cj (jX aA (fun hm=>by have:=(hm.2 OA.out aA).1;have:=HC.out;omega))),gri HG.out⟩
    have hAll:∀j,j<l.length->yc l d r j:=fun j hj=>HA.out j (by omega);have HAll:=aa hAll;clear hAll HA;by_cases ha:lE (fun x=>¬mA l r x) d
    ·have HA:=aa ha;go_wp2_with fail;refine(wS w.heap.size (w.heap.size+1) d a3 c3 _ _ (bP H3.out HG.out) f3 (Eu l r d w.heap.size (w.heap.size+1) ao a1 a2 cap c1 c2 _ e0 e2 (aX H.out HG.out) (H2.out.giI HG.out) HR.out HD.out)).mono ?_;rw[dtx ha];clear ha;rintro e w' ⟨rfl,O6,d6,rfl⟩;go_wp2_with fail;go_ret;refine⟨ai (cj ?_),gri HG.out⟩;obtain⟨m,hm,q⟩:=HA.out;exact Cr hm q
    have HA:=aa ha;go_wp2_with fail;refine(wS w.heap.size (w.heap.size+1) d a3 c3 _ _ (bP H3.out HG.out) f3 (Eu l r d w.heap.size (w.heap.size+1) ao a1 a2 cap c1 c2 _ e0 e2 (aX H.out HG.out) (H2.out.giI HG.out) HR.out HD.out)).mono ?_;rw[dfx ha];clear ha;rintro e w' ⟨rfl,O6,d6,rfl⟩;go_wp2_with fail;go_ret;exact⟨ai (mU ⟨HAll.out,fun j hj=>Classical.byContradiction fun q=>HA.out ⟨j,hj,q⟩⟩),gri HG.out⟩
  have wH:decide (b7 l d)=false:=by simp[hd]
  have e:decide (bi l r d)=false:=by simp[bi,hd]
  rw[e];clear hd e;go_enter Tryz.func113,Tryz.ntmps113;go_wp2_with fail;refine(tz l r ao a1 a2 cap c1 c2 _ (aX H.out grr) HF.out (H1.out.giB grr) (H2.out.giI grr) f1 f2).mono ?_;rw[rt];rintro e w' ⟨rfl,O1,d1,rfl⟩;go_wp2_with fail;refine(qd l d ao a3 cap c3 _ (aX H.out grr) HF.out (bP H3.out grr) f3).mono ?_;rw[wH];rintro e w' ⟨rfl,O2,d2,rfl⟩;go_wp2_with fail;go_ret;exact⟨rfl,grr⟩
 have rt:decide (bL l r)=false:=by simp[hr]
 have e:decide (bi l r d)=false:=by simp[bi,hr]
 rw[e];clear hr e;go_enter Tryz.func113,Tryz.ntmps113;go_wp2_with fail;refine(tz l r ao a1 a2 cap c1 c2 _ (aX H.out grr) HF.out (H1.out.giB grr) (H2.out.giI grr) f1 f2).mono ?_;rw[rt];rintro e w' ⟨rfl,O1,d1,rfl⟩;go_wp2_with fail;go_ret;exact⟨rfl,grr⟩
end
end Go.Proofs.YtlmhkjdkcoiioaaGreatDoor
