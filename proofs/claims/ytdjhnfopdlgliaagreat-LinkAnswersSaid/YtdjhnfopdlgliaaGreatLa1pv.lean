/- Lemmas and contracts for the proof of LinkAnswers (several texts in one, printed by wip/tools/pack.py): LsD LsE LsK LrA LsL. -/
import Derived.Test.YtdjhnfopdlgliaaGreatLa1pu
import Derived.Test.YtdjhnfopdlgliaaGreatLa1ps
import Derived.WalkMore
set_option maxRecDepth 100000
set_option maxHeartbeats 16000000
set_option linter.unusedVariables false
set_option linter.unusedSimpArgs false
namespace Go.Proofs.YtdjhnfopdlgliaaGreat
open Go.RowKit
open Classical
def wayF(ls:List Lnk)(d:List Nat)(tt:Nat):Nat→Nat→List Int→List Int
 |0,_,out=>out
 |f+1,a,out=>if a=tt then out else match (nextR ls a).find? (fun k=>decide (d.getD k.toNat 0+1=d.getD a 0)) with
  |some k=>wayF ls d tt f k.toNat (out++ [k])
  |none=>wayF ls d tt f a (out++ [(a:Int)])
def rWay(ls:List Lnk)(n frm tt:Nat):List Int:=if n+1≤(dR ls n tt).getD frm 0 then [] else wayF ls (dR ls n tt) tt (n+1) frm [(frm:Int)]
def candR(ls:List Lnk)(n i:Nat)(k:Int):List Int:=if k<(i:Int) then [] else if k=(i:Int) then [(i:Int)] else if rWay ls n k.toNat i= [] then [] else(i:Int)::(rWay ls n k.toNat i).dropLast
def bestK(b c:List Int):List Int:=if c≠ []∧(b= []∨c.length<b.length) then c else b
def circleR(ls:List Lnk)(n:Nat):List Int:=(List.range n).foldl (fun b (i:Nat)=>(nextR ls (i:Int)).foldl (fun b k=>bestK b (candR ls n i k)) b) []
theorem find_congr'{α:Type}{p q:α→Bool}{l:List α}(h:∀a∈l,p a=q a):l.find? p=l.find? q:=find_congr h
section
variable {gs:List (List Int)} {ls:List Lnk} (hB:EdgB gs) (hg:∀i,i<gs.length→gs.getD i []=nextR ls i) (hl:∀x∈ls,LnkIn gs.length x)
include hB hg hl
theorem way_circ{tt:Nat}(ht:tt<gs.length):∀(m f f' a:Nat) (out:List Int),(distT gs tt).getD a 0=m+1→m≤f→m≤f'→tt<a→a<gs.length→wayF ls (dR ls gs.length tt) tt (f+1) a out=circF gs (distT gs tt) tt f' a out++ [(tt:Int)]:=by
 obtain⟨_,hd⟩:=dR_eq hB hg hl ht
 intro m
 induction m with
 |zero=>
  intro f f' a out ha hf hf' hta hal
  have e1:circF gs (distT gs tt) tt f' a out=out:=by
   cases f' with
   |zero=>rfl
   |succ f'=>rw[circF,if_neg (by omega)]
  rw[e1,wayF,if_neg (by omega)]
  have hm:=(distT_one gs tt).2 a ha
  rw[hg a hal] at hm
  have hda:(dR ls gs.length tt).getD a 0=1:=by rw[hd a hal,Dp_big hta (by omega),ha]
  cases hz:(nextR ls a).find? (fun k=>decide ((dR ls gs.length tt).getD k.toNat 0+1=(dR ls gs.length tt).getD a 0)) with
  |none=>
   have:=List.find?_eq_none.1 hz _ hm
   rw[Int.toNat_natCast,hd tt ht,Dp_self,hda] at this
   simp at this
  |some k=>
   have k1:=List.find?_some hz
   have k2:=List.mem_of_find?_eq_some hz
   rw[←hg a hal] at k2
   obtain⟨j,rfl,hj⟩:=hB a k k2
   rw[Int.toNat_natCast,hd j hj,hda,decide_eq_true_iff] at k1
   have:j=tt:=Dp_zero (gs:=gs) (by omega)
   subst this
   dsimp only
   rw[Int.toNat_natCast]
   cases f with
   |zero=>rfl
   |succ f=>rw[wayF,if_pos rfl]
 |succ m ih=>
  intro f f' a out ha hf hf' hta hal
  obtain⟨f,rfl⟩:∃g,f=g+1:=⟨f-1,by omega⟩
  obtain⟨f',rfl⟩:∃g,f'=g+1:=⟨f'-1,by omega⟩
  obtain⟨y,e1,e2,e3,e4⟩:=find_back (distT_fin gs tt) (by omega:tt≤a) hal (by omega)
  have hda:(dR ls gs.length tt).getD a 0=m+2:=by rw[hd a hal,Dp_big hta (by omega),ha]
  have hmax:=(distT_fin gs tt).ok.max a
  have fe:(nextR ls a).find? (fun k=>decide ((dR ls gs.length tt).getD k.toNat 0+1=(dR ls gs.length tt).getD a 0))=some y:=by
   rw[←e1,hg a hal]
   refine find_congr' (fun k hk=>?_)
   rw[←hg a hal] at hk
   obtain⟨j,rfl,hj⟩:=hB a k hk
   unfold backB
   rw[Int.toNat_natCast,hd j hj,hda,ha,Bool.eq_iff_iff,Bool.and_eq_true,decide_eq_true_iff,decide_eq_true_iff,decide_eq_true_iff]
   constructor
   ·intro q
    have hne:j≠tt:=fun e=>by rw[e,Dp_self] at q;omega
    obtain⟨q1,q2,q3⟩:=Dp_pos (gs:=gs) (tt:=tt) (x:=j) (by omega) hne
    omega
   ·rintro⟨q1,q2⟩
    rw[Dp_big (by omega) (by omega)]
    omega
  obtain⟨j,rfl,hj⟩:=hB a y e2
  rw[wayF,if_neg (by omega),fe,circF,if_pos (by omega),e1]
  dsimp only
  rw[Int.toNat_natCast] at e4 ⊢
  exact ih f f' j _ (by omega) (by omega) (by omega) (by omega) hj
theorem circ_fuel{tt:Nat}(ht:tt<gs.length){f f' a:Nat}{out:List Int}(h0:(distT gs tt).getD a 0≠0)(h1:(distT gs tt).getD a 0≤f+1)(h2:(distT gs tt).getD a 0≤f'+1)(hta:tt<a)(hal:a<gs.length):circF gs (distT gs tt) tt f a out=circF gs (distT gs tt) tt f' a out:=by
 have q1:=way_circ hB hg hl ht ((distT gs tt).getD a 0-1) gs.length f a out (by omega) (by have:=(distT_fin gs tt).ok.max a;omega) (by omega) hta hal
 have q2:=way_circ hB hg hl ht ((distT gs tt).getD a 0-1) gs.length f' a out (by omega) (by have:=(distT_fin gs tt).ok.max a;omega) (by omega) hta hal
 exact List.append_cancel_right (q1.symm.trans q2)
theorem cand_way{i k:Nat}(hi:i<gs.length)(hk:k<gs.length)(hik:i<k):candR ls gs.length i (k:Int)=if(distT gs i).getD k 0=0 then [] else(i:Int)::circF gs (distT gs i) i gs.length k [(k:Int)]:=by
 obtain⟨_,hd⟩:=dR_eq hB hg hl hi
 have hmax:=(distT_fin gs i).ok.max k
 unfold candR
 rw[if_neg (by omega),if_neg (by omega),Int.toNat_natCast]
 by_cases h0:(distT gs i).getD k 0=0
 ·have:rWay ls gs.length k i= []:=by
   unfold rWay
   rw[hd k hk,if_pos]
   unfold Dp
   rw[if_neg (by omega),if_pos (.inr h0)]
   exact Nat.le_refl _
  rw[if_pos h0,if_pos this]
 ·have:rWay ls gs.length k i=circF gs (distT gs i) i gs.length k [(k:Int)]++ [(i:Int)]:=by
   unfold rWay
   rw[hd k hk,Dp_big hik h0,if_neg (by omega)]
   exact way_circ hB hg hl hi ((distT gs i).getD k 0-1) gs.length gs.length k _ (by omega) (by omega) (by omega) hik hk
  rw[if_neg h0,this,if_neg (by simp),List.dropLast_concat]
end
theorem circF_pre(gs:List (List Int))(d:List Nat)(tt:Nat)(pre:List Int):∀(f a:Nat) (out:List Int),circF gs d tt f a (pre++out)=pre++circF gs d tt f a out
 |0,a,out=>rfl
 |f+1,a,out=>by
  rw[circF,circF]
  split
  ·split
   ·rw[List.append_assoc];exact circF_pre gs d tt pre f _ _
   ·rfl
  ·rfl
theorem circF_lenD{gs:List (List Int)}{tt:Nat}(hB:EdgB gs):∀(m f a:Nat) (out:List Int),(distT gs tt).getD a 0=m+1→m≤f→tt≤a→a<gs.length→(circF gs (distT gs tt) tt f a out).length=out.length+m
 |0,f,a,out,ha,_,_,_=>by
  cases f with
  |zero=>rfl
  |succ f=>rw[circF,if_neg (by omega)];rfl
 |m+1,f,a,out,ha,hf,h1,h2=>by
  obtain⟨f,rfl⟩:∃g,f=g+1:=⟨f-1,by omega⟩
  obtain⟨y,e1,e2,e3,e4⟩:=find_back (distT_fin gs tt) h1 h2 (by omega)
  obtain⟨j,rfl,hj⟩:=hB a y e2
  rw[circF,if_pos (by omega),e1]
  dsimp only
  rw[Int.toNat_natCast] at e4 ⊢
  rw[circF_lenD hB m f j _ (by omega) (by omega) (by omega) hj,List.length_append]
  simp only[List.length_cons,List.length_nil]
  omega
/-! The best of candidates. -/
theorem fold_none{α:Type}(g:α→List Int):∀(L:List α) (b:List Int),(∀y∈L,g y= [])→L.foldl (fun b k=>bestK b (g k)) b=b
 | [],b,_=>rfl
 |y::L,b,h=>by
  rw[List.foldl_cons,h y (List.mem_cons_self ..)]
  have:bestK b []=b:=by unfold bestK;rw[if_neg (by simp)]
  rw[this]
  exact fold_none g L b (fun z hz=>h z (List.mem_cons_of_mem _ hz))
theorem fold_kept{α:Type}(g:α→List Int):∀(L:List α) (b:List Int),b≠ []→(∀y∈L,g y= []∨b.length≤(g y).length)→L.foldl (fun b k=>bestK b (g k)) b=b
 | [],b,_,_=>rfl
 |y::L,b,hb,h=>by
  rw[List.foldl_cons]
  have:bestK b (g y)=b:=by
   unfold bestK
   rw[if_neg]
   rintro⟨q1,q2|q2⟩
   ·exact hb q2
   ·rcases h y (List.mem_cons_self ..) with q|q
    ·exact q1 q
    ·omega
  rw[this]
  exact fold_kept g L b hb (fun z hz=>h z (List.mem_cons_of_mem _ hz))
theorem fold_best{α:Type}(g:α→List Int){x:α}(h0:g x≠ []){post:List α}(hp:∀y∈post,g y= []∨(g x).length≤(g y).length):∀(pre:List α) (b:List Int),(∀y∈pre,g y= []∨(g x).length<(g y).length)→(pre++x::post).foldl (fun b k=>bestK b (g k)) b=bestK b (g x)
 | [],b,_=>by
  rw[List.nil_append,List.foldl_cons]
  refine fold_kept g post _ ?_ (fun y hy=>?_)
  ·unfold bestK
   split
   ·exact h0
   ·rename_i q
    exact fun e=>q ⟨h0,.inl e⟩
  ·rcases hp y hy with q|q
   ·exact .inl q
   ·right
    unfold bestK
    split
    ·exact q
    ·rename_i q2
     have:¬(g x).length<b.length:=fun e=>q2 ⟨h0,.inr e⟩
     omega
 |y::pre,b,h=>by
  rw[List.cons_append,List.foldl_cons,fold_best g h0 hp pre _ (fun z hz=>h z (List.mem_cons_of_mem _ hz))]
  rcases h y (List.mem_cons_self ..) with q|q
  ·have:bestK b (g y)=b:=by unfold bestK;rw[if_neg (by simp[q])]
   rw[this]
  ·unfold bestK
   by_cases c1:g y≠ []∧(b= []∨(g y).length<b.length)
   ·rw[if_pos c1,if_pos ⟨h0,.inr q⟩,if_pos ⟨h0,by rcases c1.2 with e|e;exact .inl e;exact .inr (by omega)⟩]
   ·rw[if_neg c1]
theorem best_K(gs:List (List Int))(b:List Int)(i:Nat):bestF gs b i=bestK b (circT gs i):=by
 unfold bestF betterB bestK
 by_cases h:circT gs i≠ []∧(b= []∨(circT gs i).length<b.length)
 ·have h1:0<(circT gs i).length:=List.length_pos_iff.2 h.1
  rw[if_pos h,if_pos]
  rw[Bool.and_eq_true,Bool.or_eq_true,decide_eq_true_iff,decide_eq_true_iff,decide_eq_true_iff]
  refine⟨h1,?_⟩
  rcases h.2 with e|e
  ·exact .inl (by rw[e];rfl)
  ·exact .inr e
 ·rw[if_neg h,if_neg]
  rw[Bool.and_eq_true,Bool.or_eq_true,decide_eq_true_iff,decide_eq_true_iff,decide_eq_true_iff]
  rintro⟨h1,h2⟩
  refine h ⟨List.ne_nil_of_length_pos h1,?_⟩
  rcases h2 with e|e
  ·exact .inl (List.length_eq_zero_iff.1 e)
  ·exact .inr e
section
variable {gs:List (List Int)} {ls:List Lnk} (hB:EdgB gs) (hg:∀i,i<gs.length→gs.getD i []=nextR ls i) (hl:∀x∈ls,LnkIn gs.length x)
include hB hg hl
theorem cand_len{i k:Nat}(hi:i<gs.length)(hk:k<gs.length)(hik:i<k)(h0:(distT gs i).getD k 0≠0):(candR ls gs.length i (k:Int)).length=(distT gs i).getD k 0+1:=by
 rw[cand_way hB hg hl hi hk hik,if_neg h0,List.length_cons,circF_lenD hB ((distT gs i).getD k 0-1) gs.length k _ (by omega) (by have:=(distT_fin gs i).ok.max k;omega) (by omega) hk]
 simp only[List.length_cons,List.length_nil]
 omega
omit hB hg hl in
theorem next_fix{i j:Nat}(hi:i<gs.length)(hj:(j:Int)∈gs.getD i []):(j=i→(distT gs i).getD i 0=1)∧(i<j→(distT gs i).getD j 0≠0→(distT gs i).getD i 0≠0∧(distT gs i).getD i 0≤(distT gs i).getD j 0+1):=by
 have q:=(distT_fin gs i).fix i (Nat.le_refl _) hi (j:Int) hj
 constructor
 ·intro e
  subst e
  have:stepV j (distT gs j) ((j:Nat):Int)=1:=by unfold stepV;rw[if_pos rfl]
  rw[this] at q
  have h0:(distT gs j).getD j 0≠0:=fun e=>q ⟨by omega,.inl e⟩
  have h1:¬1<(distT gs j).getD j 0:=fun e=>q ⟨by omega,.inr e⟩
  omega
 ·intro hij hd
  have:stepV i (distT gs i) ((j:Nat):Int)=(distT gs i).getD j 0+1:=by
   unfold stepV
   rw[if_neg (by omega),Int.toNat_natCast,if_pos ⟨by omega,by omega⟩]
  rw[this] at q
  have h0:(distT gs i).getD i 0≠0:=fun e=>q ⟨by omega,.inl e⟩
  have h1:¬(distT gs i).getD j 0+1<(distT gs i).getD i 0:=fun e=>q ⟨by omega,.inr e⟩
  omega
theorem inner_same{i:Nat}(hi:i<gs.length)(b:List Int):(nextR ls (i:Int)).foldl (fun b k=>bestK b (candR ls gs.length i k)) b=bestK b (circT gs i):=by
 have asc:(nextR ls (i:Int)).Pairwise (·< ·):=putsI_asc _
 have low:∀k:Int,k<(i:Int)→candR ls gs.length i k= []:=fun k hk=>by unfold candR;rw[if_pos hk]
 have nat:∀k∈nextR ls (i:Int),∃j:Nat,k=j∧j<gs.length∧(j:Int)∈gs.getD i []:=fun k hk=>by
  rw[←hg i hi] at hk
  obtain⟨j,e,hj⟩:=hB i k hk
  exact⟨j,e,hj,by rw[←e];exact hk⟩
 by_cases d0:(distT gs i).getD i 0=0
 ·have:circT gs i= []:=by unfold circT;rw[if_pos d0]
  rw[this,show bestK b []=b by unfold bestK;rw[if_neg (by simp)]]
  refine fold_none _ _ b (fun k hk=>?_)
  obtain⟨j,rfl,hj,hm⟩:=nat k hk
  obtain⟨f1,f2⟩:=next_fix hi hm
  rcases Nat.lt_trichotomy j i with h|h|h
  ·exact low _ (by omega)
  ·have:=f1 h;omega
  ·rw[cand_way hB hg hl hi hj h,if_pos]
   by_cases e:(distT gs i).getD j 0=0
   ·exact e
   ·exact absurd d0 (f2 h e).1
 by_cases d1:(distT gs i).getD i 0=1
 ·have hc:circT gs i= [(i:Int)]:=by
   unfold circT
   rw[if_neg d0]
   cases hn:gs.length with
   |zero=>omega
   |succ n=>rw[circF,if_neg (by omega)]
  have hm:=(distT_one gs i).2 i d1
  rw[hg i hi] at hm
  obtain⟨pre,post,e⟩:=List.append_of_mem hm
  have gx:candR ls gs.length i (i:Int)= [(i:Int)]:=by unfold candR;rw[if_neg (by omega),if_pos rfl]
  have hA:=asc
  rw[e] at hA
  obtain⟨_,a2,a3⟩:=List.pairwise_append.1 hA
  rw[hc,←gx,e]
  refine fold_best _ (by rw[gx];simp) (fun k hk=>?_) pre b (fun k hk=> .inl (low k (a3 k hk _ (List.mem_cons_self ..))))
  rw[gx]
  by_cases e0:candR ls gs.length i k= []
  ·exact .inl e0
  ·exact .inr (List.length_pos_iff.2 e0)
 ·obtain⟨y,e1,e2,e3,e4⟩:=find_back (distT_fin gs i) (Nat.le_refl _) hi (by omega)
  obtain⟨j,rfl,hj⟩:=hB i y e2
  have hij:i<j:=by omega
  rw[Int.toNat_natCast] at e4
  have hjd:(distT gs i).getD j 0≠0:=by omega
  have hmax:=(distT_fin gs i).ok.max i
  have hc:circT gs i=candR ls gs.length i (j:Int):=by
   rw[cand_way hB hg hl hi hj hij,if_neg hjd]
   unfold circT
   rw[if_neg d0]
   obtain⟨n,hn⟩:∃n,gs.length=n+1:=⟨gs.length-1,by omega⟩
   have q:circF gs (distT gs i) i gs.length i [(i:Int)]=circF gs (distT gs i) i n j ([(i:Int)]++ [(j:Int)]):=by
    rw[hn,circF,if_pos (by omega),e1]
    rfl
   rw[q,circF_pre,circ_fuel hB hg hl hi hjd (f:=n) (f':=gs.length) (by omega) (by omega) hij hj]
   rfl
  have len0:=cand_len hB hg hl hi hj hij hjd
  rw[hg i hi] at e1
  obtain⟨_,pre,post,e,hpre⟩:=List.find?_eq_some_iff_append.1 e1
  rw[hc]
  have mem_of:∀k,k∈pre∨k∈post→k∈nextR ls (i:Int):=fun k hk=>by
   rw[e]
   rcases hk with q|q
   ·exact List.mem_append_left _ q
   ·exact List.mem_append_right _ (List.mem_cons_of_mem _ q)
  have gen:∀k,k∈nextR ls (i:Int)→candR ls gs.length i k= []∨∃jk:Nat,k=jk∧i<jk∧(distT gs i).getD jk 0≠0∧(distT gs i).getD i 0≤(distT gs i).getD jk 0+1∧(candR ls gs.length i k).length=(distT gs i).getD jk 0+1:=fun k hk=>by
   obtain⟨jk,rfl,hjk,hm⟩:=nat k hk
   obtain⟨f1,f2⟩:=next_fix hi hm
   rcases Nat.lt_trichotomy jk i with h|h|h
   ·exact .inl (low _ (by omega))
   ·have:=f1 h;omega
   ·by_cases e0:(distT gs i).getD jk 0=0
    ·left;rw[cand_way hB hg hl hi hjk h,if_pos e0]
    ·exact .inr ⟨jk,rfl,h,e0,(f2 h e0).2,cand_len hB hg hl hi hjk h e0⟩
  rw[e]
  refine fold_best _ (fun q=>by rw[q] at len0;simp at len0) (fun k hk=>?_) pre b (fun k hk=>?_)
  ·rcases gen k (mem_of k (.inr hk)) with q|⟨jk,_,_,_,q1,q2⟩
   ·exact .inl q
   ·right;omega
  ·rcases gen k (mem_of k (.inl hk)) with q|⟨jk,rfl,q0,_,q1,q2⟩
   ·exact .inl q
   ·right
    have h3:=hpre _ hk
    unfold backB at h3
    rw[Int.toNat_natCast,decide_eq_true (by omega:(i:Int)<(jk:Int)),Bool.true_and] at h3
    have h4:¬(distT gs i).getD jk 0+1=(distT gs i).getD i 0:=by simpa using h3
    omega
theorem circle_same:circleR ls gs.length=bestT gs:=by
 unfold circleR bestT
 have key:∀(l:List Nat) (b:List Int),(∀i∈l,i<gs.length)→l.foldl (fun b (i:Nat)=>(nextR ls (i:Int)).foldl (fun b k=>bestK b (candR ls gs.length i k)) b) b=l.foldl (bestF gs) b:=by
  intro l
  induction l with
  |nil=>intro b _;rfl
  |cons i l ih=>
   intro b h
   rw[List.foldl_cons,List.foldl_cons,inner_same hB hg hl (h i (List.mem_cons_self ..)),←best_K]
   exact ih _ (fun j hj=>h j (List.mem_cons_of_mem _ hj))
 exact key _ [] (fun i hi=>List.mem_range.1 hi)
end
def circleTR(ts:Tr)(pn cn:St):Except Int (List Int):=
 match allT ts pn cn ts.length with
 | .error e=> .error e
 | .ok ls=> .ok (circleR ls ts.length)
theorem circleT_R(ts:Tr)(pn cn:St):circleT ts pn cn=circleTR ts pn cn:=by
 unfold circleT circleTR
 cases h:allT ts pn cn ts.length with
 |error e=>rw[show graphT ts pn cn= .error e by unfold graphT;rw[h]]
 |ok ls=>
  obtain⟨h1,h2,h3,_⟩:=graph_of h
  rw[h1]
  dsimp only
  have hl:∀x∈ls,LnkIn ((rawG ts.length ls).map normG).length x:=fun x hx=>by
   rw[h2]
   obtain⟨⟨i,e1,e2⟩,j,e3,e4⟩:=allT_mem _ _ h x hx
   exact⟨i,j,e1,e2,e3,e4⟩
  have q:=circle_same (ls:=ls) h3 (fun i hi=>graph_next h (by rw[←h2];exact hi)) hl
  rw[←q,h2]
theorem nums_getI{l:List Int}{k:Nat}(h:k<l.length):(nums l)[k]?=some (.int .i64 l[k]):=by simp[nums,h]
theorem nums_dropI(l:List Int)(k:Nat):nums (l.drop k)=(nums l).drop k:=by simp[nums,List.map_drop]
theorem nums_appI(l m:List Int):nums (l++m)=nums l++nums m:=by simp[nums]
theorem owns_newI(w:World)(xs:List Int)(arr:Array Value)(ha:arr.toList=nums xs)(T:TypeId)(base B n:Nat)(hn:xs.length=n)(hB:w.heap.size=B)(hb:base≤B)(hm:n≤1000000):
  (w.alloc (.cells arr T)).ownsRow base T 1 (.slice (some ⟨B,0,none⟩) n n) n (nums xs):=by
 subst hB hn
 have hl:arr.size=xs.length:=by rw[←Array.length_toList,ha,nums_len]
 refine⟨by rw[nums_len];omega,.inr ⟨w.heap.size,xs.length,arr,rfl,hb,heap_alloc_new w _,Nat.le_refl _,by unfold maxLen;omega,by omega,?_⟩⟩
 rw[ha,Nat.mul_one,List.take_of_length_le (by rw[nums_len];exact Nat.le_refl _)]
theorem putI_any(zs:List Int)(a:Option Addr)(cap base:Nat)(x:Int)(w:World)(h:w.ownsRow base 3 1 (.slice a zs.length cap) zs.length (nums zs))(hb:base≤w.heap.size)(hf:zs.length≤10000):
  Calls Tryz.prog 57 #[.slice a zs.length cap,.int .i64 x] w fun e w'=>∃v,e= .returned v∧w'.ownsRow base 3 1 v (putI zs x).length (nums (putI zs x))∧Gr w w':=by
 have OW:=Lib.hid h
 clear h
 obtain⟨i0,hi,hz0,hz1,hz2⟩:=info_parts infoInt
 have SC:Hid (∀wz,Gr w wz→∀j (hj:j<zs.length),∃g,a=some ⟨g,0,none⟩∧wz.cell? ⟨g,j,none⟩=some (.int .i64 zs[j])):=Lib.hid (fun wz hz j hj=>by
  obtain⟨g,cap2,e1,_,_,hc⟩:=owns_cell (Gr.owns OW.out hz) (by omega)
  cases e1
  exact⟨g,rfl,by rw[hc j (by omega),nums_getI hj]⟩)
 go_enter Tryz.func57,Tryz.ntmps57
 go_wp2_with fail
 go_loopw [5] (fun i wr=>∃j:Nat,j≤zs.length∧i= .int .i64 j∧(∀m (hm:m<zs.length),m<j→zs[m]<x)∧Gr w wr) (fun i _=>zs.length-(intOf i).toNat)
 case atStart=>exact⟨0,Nat.zero_le _,rfl,fun m _ hm=>by omega,Gr.refl _⟩
 case round=>
  obtain⟨j,hj,rfl,ha,hg⟩:=hrel
  have HQ:=Lib.hid hg
  have HA:=Lib.hid ha
  clear hg ha
  by_cases hjl:j<zs.length
  ·obtain⟨g,ea,d0⟩:=SC.out _ HQ.out j hjl
   have AT:=Lib.hid (putI_at (x:=x) (Nat.le_of_lt hjl) HA.out)
   have NXT:=Lib.hid (fun(q:zs[j]'hjl<x)=>(fun m (hm:m<zs.length) (hmj:m<j+1)=>(show zs[m]<x by
    by_cases e:m=j
    ·subst e;exact q
    ·exact HA.out m hm (by omega))))
   have AT2:Hid (¬(zs[j]'hjl<x)→putI zs x=if zs[j]'hjl=x then zs else zs.take j++x::zs.drop j):=Lib.hid (fun q=>by rw[AT.out (fun _=>q),dif_pos hjl])
   obtain⟨zj,hzj⟩:∃z,zs[j]'hjl=z:=⟨_,rfl⟩
   rw[hzj] at d0 NXT AT2
   have hd0:=has_of_cell d0
   have jj:(j:Int)<zs.length:=by omega
   have HJL:=Lib.hid hjl
   subst ea
   clear AT hzj
   by_cases hlt:zj<x
   ·have b1:decide (zj<x)=true:=by simpa using hlt
    have NX2:=Lib.hid (NXT.out hlt)
    clear hlt hjl
    go_wp2_with fail
    go_roundw
    case rel=>exact⟨j+1,by have:=HJL.out;omega,by go_num,NX2.out,HQ.out⟩
    case measure=>simp[intOf];have:=HJL.out;omega
   ·have b1:decide (zj<x)=false:=by simpa using hlt
    by_cases he:zj=x
    ·have RES:Hid (putI zs x=zs):=Lib.hid (by rw[AT2.out hlt,if_pos he])
     have b2:(zj==x)=true:=beq_iff_eq.2 he
     clear he hlt hjl
     go_wp2_with fail
     go_ret
     exact⟨_,rfl,by rw[RES.out];exact Gr.owns OW.out HQ.out,HQ.out⟩
    ·have INS:Hid (putI zs x=zs.take j++x::zs.drop j):=Lib.hid (by rw[AT2.out hlt,if_neg he])
     have b2:(zj==x)=false:=by rw[beq_eq_false_iff_ne];exact he
     clear he hlt hjl
     go_upto_region 6 with(fail)
     obtain⟨w2,hw2⟩:∃W:World,Hid (wr=W):=⟨_,Lib.hid rfl⟩
     have GQ:Hid (Gr w w2):=Lib.hid (by rw[←hw2.out];exact HQ.out)
     rw[hw2.out]
     have O2:=Lib.hid (Gr.owns OW.out GQ.out)
     have y0:=owns_cap2 O2.out
     obtain⟨ml,hml⟩:∃m,zs.length=m:=⟨_,rfl⟩
     have ML:=Lib.hid hml
     clear hw2
     rw[hml] at O2 y0 hj hf ⊢
     clear hml
     have y3:(ml:Int)≤cap:=by omega
     have y4:(j:Int)≤cap:=by omega
     have y5:(j:Int)≤ml:=by omega
     have F2:Hid (((some ⟨g,0,none⟩:Option Addr)=none∧ml=0∧cap=0)∨∃g2,(some ⟨g,0,none⟩:Option Addr)=some ⟨g2,0,none⟩):=Lib.hid (by
      obtain⟨h0,⟨q,h1⟩|⟨g,cap,cur,q,_⟩⟩:=O2.out
      ·simp only[Value.slice.injEq] at q;exact .inl ⟨q.1,h1,q.2.2⟩
      ·simp only[Value.slice.injEq] at q;exact .inr ⟨g,q.1⟩)
     go_cut [6] (fun v wx=>wx.ownsRow w2.heap.size 3 1 v (1+(ml-j)) (nums (x::zs.drop j))∧Gr w2 wx)
     case first=>
      rcases F2.out with⟨q,_⟩|⟨g9,q9⟩
      ·cases q
      ·cases q9
       by_cases hkm:j<ml
       ·have hkm':(j:Int)<ml:=by omega
        have S6:Hid (Gets (w2.alloc (.cells #[.int .i64 x] 3)) (some ⟨g,j,none⟩) (ml-j) 1 (nums (zs.drop j))):=Lib.hid (by
         refine⟨by rw[nums_len,List.length_drop,ML.out];omega,fun _=>⟨_,rfl,fun i u hu=>?_⟩⟩
         rw[nums_dropI,List.getElem?_drop] at hu
         obtain⟨hj2,_⟩:=List.getElem?_eq_some_iff.1 hu
         rw[nums_len] at hj2
         obtain⟨g2,e2,q⟩:=SC.out _ (GQ.out.alloc (.cells #[.int .i64 x] 3)) (j+i) hj2
         cases e2
         rw[nums_getI hj2] at hu
         rw[Addr.add_lit,q,hu])
        go_wp2_with (at_builtin;refine wpList_append_gets _ rfl _ _ 38 rfl w2.heap.size 3 i0 (.int .i64 0) 1 8 Tryz.underlying38 hi hz0 hz1 hz2 rfl (by decide) (.slice (some ⟨w2.heap.size,0,none⟩) 1 1) 1 (nums [x]) rfl (owns_newI w2 [x] _ rfl _ _ _ 1 rfl rfl (Nat.le_refl _) (by omega)) (some ⟨g,j,none⟩) (ml-j) (cap-j) (nums (zs.drop j)) rfl S6.out (nums_one _) (by unfold maxLen;omega) (by omega) (by simp) ?_;intro v1 w3 hown hgrow hloc;have O3:=Lib.hid hown;have G3:Hid (Gr w2 w3):=Lib.hid (((Gr.refl w2).alloc _).grown hgrow (fun k e=>by cases e;exact Nat.le_refl _));clear hown hgrow hloc)
        go_meet
        exact⟨by have:=O3.out;simpa [nums] using this,G3.out⟩
       ·obtain rfl:j=ml:=by omega
        have DZ:Hid (zs.drop j= []):=Lib.hid (by rw[List.drop_eq_nil_iff,ML.out];exact Nat.le_refl _)
        by_cases hmc:j<cap
        ·have hmc':(j:Int)<cap:=by omega
         go_wp2_with (at_builtin;refine wpList_append_gets _ rfl _ _ 38 rfl w2.heap.size 3 i0 (.int .i64 0) 1 8 Tryz.underlying38 hi hz0 hz1 hz2 rfl (by decide) (.slice (some ⟨w2.heap.size,0,none⟩) 1 1) 1 (nums [x]) rfl (owns_newI w2 [x] _ rfl _ _ _ 1 rfl rfl (Nat.le_refl _) (by omega)) (some ⟨g,j,none⟩) 0 (cap-j) (nums []) rfl ⟨rfl,fun h=>absurd rfl h⟩ (nums_one _) (by unfold maxLen;omega) (by omega) (by simp) ?_;intro v1 w3 hown hgrow hloc;have O3:=Lib.hid hown;have G3:Hid (Gr w2 w3):=Lib.hid (((Gr.refl w2).alloc _).grown hgrow (fun k e=>by cases e;exact Nat.le_refl _));clear hown hgrow hloc)
         go_meet
         exact⟨by have:=O3.out;rw[DZ.out];simpa [nums] using this,G3.out⟩
        ·obtain rfl:cap=j:=by omega
         go_wp2_with (at_builtin;refine wpList_append_gets _ rfl _ _ 38 rfl w2.heap.size 3 i0 (.int .i64 0) 1 8 Tryz.underlying38 hi hz0 hz1 hz2 rfl (by decide) (.slice (some ⟨w2.heap.size,0,none⟩) 1 1) 1 (nums [x]) rfl (owns_newI w2 [x] _ rfl _ _ _ 1 rfl rfl (Nat.le_refl _) (by omega)) (some ⟨g,0,none⟩) 0 0 (nums []) rfl ⟨rfl,fun h=>absurd rfl h⟩ (nums_one _) (by unfold maxLen;omega) (by omega) (by simp) ?_;intro v1 w3 hown hgrow hloc;have O3:=Lib.hid hown;have G3:Hid (Gr w2 w3):=Lib.hid (((Gr.refl w2).alloc _).grown hgrow (fun k e=>by cases e;exact Nat.le_refl _));clear hown hgrow hloc)
         go_meet
         exact⟨by have:=O3.out;rw[DZ.out];simpa [nums] using this,G3.out⟩
     obtain⟨ho3,hg3⟩:=hcut
     obtain⟨g1,c1,rfl,hc1,_,hcell⟩:=owns_cell ho3 (by omega)
     have P7:Hid (∀bb,(some ⟨g,0,none⟩:Option Addr)=some bb→∀i u,(nums (zs.take j))[i]?=some u→wc.cell? (bb.add i)=some u):=Lib.hid (by
      intro bb hbb i u hu
      obtain⟨hi2,hu⟩:=List.getElem?_eq_some_iff.1 hu
      have hj2:i<j∧i<zs.length:=by have:=hi2;rw[nums_len,List.length_take] at this;omega
      obtain⟨g2,e2,q⟩:=SC.out _ (GQ.out.trans hg3) i hj2.2
      have e3:=hbb.symm.trans e2
      cases e3
      rw[Addr.add_lit,Nat.zero_add,q,←hu]
      have h9:=nums_getI (l:=zs.take j) (k:=i) (by rw[List.length_take];omega)
      rw[List.getElem?_eq_getElem (by rw[nums_len,List.length_take];omega)] at h9
      rw[Option.some.inj h9,List.getElem_take])
     have Q7:Hid (∀i u,(nums (x::zs.drop j))[i]?=some u→wc.cell? ((⟨g1,0,none⟩:Addr).add i)=some u):=Lib.hid (by
      intro i u hu
      obtain⟨hi2,_⟩:=List.getElem?_eq_some_iff.1 hu
      have hj2:i<(1+(ml-j))*1:=by have:=hi2;rw[nums_len,List.length_cons,List.length_drop,ML.out] at this;omega
      rw[Addr.add_lit,Nat.zero_add,hcell i hj2,hu])
     have A7:Hid ((some ⟨g,0,none⟩:Option Addr)=none→j=0∧j=0):=Lib.hid fun q=>by
      rcases F2.out with⟨_,h,_⟩|⟨g,h⟩
      ·omega
      ·rw[q] at h;cases h
     have BC:=Lib.hid (GQ.out.trans hg3)
     have BZ:Hid (base≤wc.heap.size):=Lib.hid (Nat.le_trans hb BC.out.size)
     have hlen2:Hid (j+(1+(ml-j))=(putI zs x).length):=Lib.hid (by
      rw[INS.out,List.length_append,List.length_cons,List.length_take,List.length_drop,ML.out];omega)
     have hint:Hid (nums (zs.take j)++nums (x::zs.drop j)=nums (putI zs x)):=Lib.hid (by rw[INS.out,nums_appI])
     have TL:Hid ((nums (zs.take j)).length=j*1):=Lib.hid (by rw[nums_len,List.length_take,ML.out];omega)
     have DL:Hid ((nums (x::zs.drop j)).length=(1+(ml-j))*1):=Lib.hid (by rw[nums_len,List.length_cons,List.length_drop,ML.out];omega)
     rcases F2.out with⟨q,_⟩|⟨g9,q9⟩
     ·cases q
     ·cases q9
      go_wp2_with (at_builtin;refine wpList_append_grows _ rfl _ _ 38 rfl 3 i0 (.int .i64 0) 1 8 Tryz.underlying38 hi hz0 hz1 hz2 rfl (by decide) (some ⟨g,0,none⟩) j j (nums (zs.take j)) rfl A7.out TL.out P7.out ⟨g1,0,none⟩ (1+(ml-j)) c1 (nums (x::zs.drop j)) rfl DL.out Q7.out (nums_one _) (by omega) (by unfold maxLen;omega) (by omega) ?_;intro v2 w4 hown hgrow;have O4:=Lib.hid hown;have G5:=Lib.hid hgrow;clear hown hgrow)
      go_ret
      exact⟨v2,rfl,by rw[←hlen2.out,←hint.out];exact owns_low O4.out BZ.out,BC.out.trans ((Gr.refl _).grown G5.out (fun k e=>by cases e))⟩
  ·have INS:Hid (putI zs x=zs.take j++x::zs.drop j):=Lib.hid (by
    have e:j=zs.length:=by omega
    rw[putI_at (x:=x) hj HA.out (fun h=>absurd h hjl),dif_neg hjl,e,List.take_length,List.drop_length])
   have jj:¬(j:Int)<zs.length:=by omega
   clear hjl
   go_upto_region 6 with(fail)
   obtain⟨w2,hw2⟩:∃W:World,Hid (wr=W):=⟨_,Lib.hid rfl⟩
   have GQ:Hid (Gr w w2):=Lib.hid (by rw[←hw2.out];exact HQ.out)
   rw[hw2.out]
   have O2:=Lib.hid (Gr.owns OW.out GQ.out)
   have y0:=owns_cap2 O2.out
   obtain⟨ml,hml⟩:∃m,zs.length=m:=⟨_,rfl⟩
   have ML:=Lib.hid hml
   clear hw2
   rw[hml] at O2 y0 hj hf ⊢
   clear hml
   have y3:(ml:Int)≤cap:=by omega
   have y4:(j:Int)≤cap:=by omega
   have y5:(j:Int)≤ml:=by omega
   have F2:Hid ((a=none∧ml=0∧cap=0)∨∃g,a=some ⟨g,0,none⟩):=Lib.hid (by
    obtain⟨h0,⟨q,h1⟩|⟨g,cap,cur,q,_⟩⟩:=O2.out
    ·simp only[Value.slice.injEq] at q;exact .inl ⟨q.1,h1,q.2.2⟩
    ·simp only[Value.slice.injEq] at q;exact .inr ⟨g,q.1⟩)
   go_cut [6] (fun v wx=>wx.ownsRow w2.heap.size 3 1 v (1+(ml-j)) (nums (x::zs.drop j))∧Gr w2 wx)
   case first=>
    rcases F2.out with⟨rfl,rfl,rfl⟩|⟨g,rfl⟩
    ·obtain rfl:j=0:=by omega
     obtain rfl:zs= []:=List.eq_nil_of_length_eq_zero ML.out
     go_wp2_with fail
     go_meet
     exact⟨owns_newI w2 [x] _ rfl _ _ _ 1 rfl rfl (Nat.le_refl _) (by omega),(Gr.refl _).alloc _⟩
    ·by_cases hkm:j<ml
     ·have hkm':(j:Int)<ml:=by omega
      have S6:Hid (Gets (w2.alloc (.cells #[.int .i64 x] 3)) (some ⟨g,j,none⟩) (ml-j) 1 (nums (zs.drop j))):=Lib.hid (by
       refine⟨by rw[nums_len,List.length_drop,ML.out];omega,fun _=>⟨_,rfl,fun i u hu=>?_⟩⟩
       rw[nums_dropI,List.getElem?_drop] at hu
       obtain⟨hj2,_⟩:=List.getElem?_eq_some_iff.1 hu
       rw[nums_len] at hj2
       obtain⟨g2,e2,q⟩:=SC.out _ (GQ.out.alloc (.cells #[.int .i64 x] 3)) (j+i) hj2
       cases e2
       rw[nums_getI hj2] at hu
       rw[Addr.add_lit,q,hu])
      go_wp2_with (at_builtin;refine wpList_append_gets _ rfl _ _ 38 rfl w2.heap.size 3 i0 (.int .i64 0) 1 8 Tryz.underlying38 hi hz0 hz1 hz2 rfl (by decide) (.slice (some ⟨w2.heap.size,0,none⟩) 1 1) 1 (nums [x]) rfl (owns_newI w2 [x] _ rfl _ _ _ 1 rfl rfl (Nat.le_refl _) (by omega)) (some ⟨g,j,none⟩) (ml-j) (cap-j) (nums (zs.drop j)) rfl S6.out (nums_one _) (by unfold maxLen;omega) (by omega) (by simp) ?_;intro v1 w3 hown hgrow hloc;have O3:=Lib.hid hown;have G3:Hid (Gr w2 w3):=Lib.hid (((Gr.refl w2).alloc _).grown hgrow (fun k e=>by cases e;exact Nat.le_refl _));clear hown hgrow hloc)
      go_meet
      exact⟨by have:=O3.out;simpa [nums] using this,G3.out⟩
     ·obtain rfl:j=ml:=by omega
      have DZ:Hid (zs.drop j= []):=Lib.hid (by rw[List.drop_eq_nil_iff,ML.out];exact Nat.le_refl _)
      by_cases hmc:j<cap
      ·have hmc':(j:Int)<cap:=by omega
       go_wp2_with (at_builtin;refine wpList_append_gets _ rfl _ _ 38 rfl w2.heap.size 3 i0 (.int .i64 0) 1 8 Tryz.underlying38 hi hz0 hz1 hz2 rfl (by decide) (.slice (some ⟨w2.heap.size,0,none⟩) 1 1) 1 (nums [x]) rfl (owns_newI w2 [x] _ rfl _ _ _ 1 rfl rfl (Nat.le_refl _) (by omega)) (some ⟨g,j,none⟩) 0 (cap-j) (nums []) rfl ⟨rfl,fun h=>absurd rfl h⟩ (nums_one _) (by unfold maxLen;omega) (by omega) (by simp) ?_;intro v1 w3 hown hgrow hloc;have O3:=Lib.hid hown;have G3:Hid (Gr w2 w3):=Lib.hid (((Gr.refl w2).alloc _).grown hgrow (fun k e=>by cases e;exact Nat.le_refl _));clear hown hgrow hloc)
       go_meet
       exact⟨by have:=O3.out;rw[DZ.out];simpa [nums] using this,G3.out⟩
      ·obtain rfl:cap=j:=by omega
       go_wp2_with (at_builtin;refine wpList_append_gets _ rfl _ _ 38 rfl w2.heap.size 3 i0 (.int .i64 0) 1 8 Tryz.underlying38 hi hz0 hz1 hz2 rfl (by decide) (.slice (some ⟨w2.heap.size,0,none⟩) 1 1) 1 (nums [x]) rfl (owns_newI w2 [x] _ rfl _ _ _ 1 rfl rfl (Nat.le_refl _) (by omega)) (some ⟨g,0,none⟩) 0 0 (nums []) rfl ⟨rfl,fun h=>absurd rfl h⟩ (nums_one _) (by unfold maxLen;omega) (by omega) (by simp) ?_;intro v1 w3 hown hgrow hloc;have O3:=Lib.hid hown;have G3:Hid (Gr w2 w3):=Lib.hid (((Gr.refl w2).alloc _).grown hgrow (fun k e=>by cases e;exact Nat.le_refl _));clear hown hgrow hloc)
       go_meet
       exact⟨by have:=O3.out;rw[DZ.out];simpa [nums] using this,G3.out⟩
   obtain⟨ho3,hg3⟩:=hcut
   obtain⟨g1,c1,rfl,hc1,_,hcell⟩:=owns_cell ho3 (by omega)
   have P7:Hid (∀bb,a=some bb→∀i u,(nums (zs.take j))[i]?=some u→wc.cell? (bb.add i)=some u):=Lib.hid (by
    intro bb hbb i u hu
    obtain⟨hi2,hu⟩:=List.getElem?_eq_some_iff.1 hu
    have hj2:i<j∧i<zs.length:=by have:=hi2;rw[nums_len,List.length_take] at this;omega
    obtain⟨g2,e2,q⟩:=SC.out _ (GQ.out.trans hg3) i hj2.2
    have e3:=hbb.symm.trans e2
    cases e3
    rw[Addr.add_lit,Nat.zero_add,q,←hu]
    have h9:=nums_getI (l:=zs.take j) (k:=i) (by rw[List.length_take];omega)
    rw[List.getElem?_eq_getElem (by rw[nums_len,List.length_take];omega)] at h9
    rw[Option.some.inj h9,List.getElem_take])
   have Q7:Hid (∀i u,(nums (x::zs.drop j))[i]?=some u→wc.cell? ((⟨g1,0,none⟩:Addr).add i)=some u):=Lib.hid (by
    intro i u hu
    obtain⟨hi2,_⟩:=List.getElem?_eq_some_iff.1 hu
    have hj2:i<(1+(ml-j))*1:=by have:=hi2;rw[nums_len,List.length_cons,List.length_drop,ML.out] at this;omega
    rw[Addr.add_lit,Nat.zero_add,hcell i hj2,hu])
   have A7:Hid (a=none→j=0∧j=0):=Lib.hid fun q=>by
    rcases F2.out with⟨_,h,_⟩|⟨g,h⟩
    ·omega
    ·rw[q] at h;cases h
   have BC:=Lib.hid (GQ.out.trans hg3)
   have BZ:Hid (base≤wc.heap.size):=Lib.hid (Nat.le_trans hb BC.out.size)
   have hlen2:Hid (j+(1+(ml-j))=(putI zs x).length):=Lib.hid (by
    rw[INS.out,List.length_append,List.length_cons,List.length_take,List.length_drop,ML.out];omega)
   have hint:Hid (nums (zs.take j)++nums (x::zs.drop j)=nums (putI zs x)):=Lib.hid (by rw[INS.out,nums_appI])
   have TL:Hid ((nums (zs.take j)).length=j*1):=Lib.hid (by rw[nums_len,List.length_take,ML.out];omega)
   have DL:Hid ((nums (x::zs.drop j)).length=(1+(ml-j))*1):=Lib.hid (by rw[nums_len,List.length_cons,List.length_drop,ML.out];omega)
   rcases F2.out with⟨rfl,rfl,rfl⟩|⟨g,rfl⟩
   ·obtain rfl:j=0:=by omega
    go_wp2_with (at_builtin;refine wpList_append_grows _ rfl _ _ 38 rfl 3 i0 (.int .i64 0) 1 8 Tryz.underlying38 hi hz0 hz1 hz2 rfl (by decide) none 0 0 (nums (zs.take 0)) rfl A7.out TL.out P7.out ⟨g1,0,none⟩ 1 c1 (nums (x::zs.drop 0)) rfl DL.out Q7.out (nums_one _) (by omega) (by unfold maxLen;omega) (by omega) ?_;intro v2 w4 hown hgrow;have O4:=Lib.hid hown;have G5:=Lib.hid hgrow;clear hown hgrow)
    go_ret
    exact⟨v2,rfl,by rw[←hlen2.out,←hint.out];exact owns_low O4.out BZ.out,BC.out.trans ((Gr.refl _).grown G5.out (fun k e=>by cases e))⟩
   ·go_wp2_with (at_builtin;refine wpList_append_grows _ rfl _ _ 38 rfl 3 i0 (.int .i64 0) 1 8 Tryz.underlying38 hi hz0 hz1 hz2 rfl (by decide) (some ⟨g,0,none⟩) j j (nums (zs.take j)) rfl A7.out TL.out P7.out ⟨g1,0,none⟩ (1+(ml-j)) c1 (nums (x::zs.drop j)) rfl DL.out Q7.out (nums_one _) (by omega) (by unfold maxLen;omega) (by omega) ?_;intro v2 w4 hown hgrow;have O4:=Lib.hid hown;have G5:=Lib.hid hgrow;clear hown hgrow)
    go_ret
    exact⟨v2,rfl,by rw[←hlen2.out,←hint.out];exact owns_low O4.out BZ.out,BC.out.trans ((Gr.refl _).grown G5.out (fun k e=>by cases e))⟩
def PlI(o:List Int)(k n:Nat)(zs:List Int):Prop:=(∀j (hj:j<o.length),j<k→zs[(o[j]'hj).toNat]?=some (j:Int))∧(∀x:Nat,x<n→(∀j (hj:j<o.length),j<k→o[j]'hj≠(x:Int))→zs[x]?=some (-1))
theorem lks_get{lts:List LT}{m:Nat}(h:m<lts.length):(lks lts)[m]'(by unfold lks;rw[List.length_map];exact h)=lts[m].l:=by
 unfold lks
 rw[List.getElem_map]
theorem allT_len2{ts:Tr}(hg:GoodT ts){pn cn:St}:∀(K:Nat) (ls:List Lnk),K≤ts.length→allT ts pn cn K= .ok ls→ls.length≤K*64
 |0,ls,_,h=>by rw[allT] at h;injection h with h;subst h;simp
 |K+1,ls,hK,h=>by
  rw[allT] at h
  cases ha:allT ts pn cn K with
  |error e=>rw[ha] at h;cases h
  |ok out=>
   rw[ha] at h
   dsimp only at h
   cases ho:ofT ts K pn cn with
   |error e=>rw[ho] at h;cases h
   |ok l2=>
    rw[ho] at h
    injection h with h
    subst h
    have h1:=allT_len2 hg K out (by omega) ha
    have h2:=ofT_len hg (by omega) ho
    rw[List.length_append]
    omega
theorem foldl_putI_len(zs:List Int):∀(o:List Int),(zs.foldl putI o).length≤o.length+zs.length:=by
 induction zs with
 |nil=>intro o;simp
 |cons z zs ih=>
  intro o
  have h1:=ih (putI o z)
  have h2:=putI_len o z
  rw[List.foldl_cons,List.length_cons]
  omega
theorem putsI_lenA(zs:List Int):(putsI zs).length≤zs.length:=by
 have:=foldl_putI_len zs []
 simpa [putsI] using this
theorem nextR_len(ls:List Lnk)(i:Int):(nextR ls i).length≤ls.length:=by
 unfold nextR
 refine Nat.le_trans (putsI_lenA _) ?_
 rw[List.length_map]
 exact List.length_filter_le _ _
theorem consR_len(ls:List Lnk)(i:Int):(consR ls i).length≤ls.length:=by
 unfold consR
 refine Nat.le_trans (putsI_lenA _) ?_
 rw[List.length_map]
 exact List.length_filter_le _ _
theorem nextR_step(ls:List Lnk)(i:Int)(m:Nat)(h:m<ls.length):nextR (ls.take (m+1)) i=if ls[m].node==i then putI (nextR (ls.take m) i) ls[m].prov else nextR (ls.take m) i:=by
 unfold nextR
 rw[List.take_succ_eq_append_getElem h,List.filter_append,List.map_append,List.filter_cons]
 split
 ·rw[List.filter_nil,List.map_cons,List.map_nil,putsI_snoc]
 ·simp
theorem consR_step(ls:List Lnk)(i:Int)(m:Nat)(h:m<ls.length):consR (ls.take (m+1)) i=if ls[m].prov==i then putI (consR (ls.take m) i) ls[m].node else consR (ls.take m) i:=by
 unfold consR
 rw[List.take_succ_eq_append_getElem h,List.filter_append,List.map_append,List.filter_cons]
 split
 ·rw[List.filter_nil,List.map_cons,List.map_nil,putsI_snoc]
 ·simp
def GivesN(w:World)(zs:List Int)(e:Ending)(w':World):Prop:=∃v,e= .returned v∧w'.ownsRow w.heap.size 3 1 v zs.length (nums zs)∧Gr w w'
theorem next_any(lts:List LT)(la:Option Addr)(lc base:Nat)(i:Int)(w:World)(h:w.ownsRow base 40 5 (.slice la lts.length lc) lts.length (encLks lts))(hf:lts.length≤10000):
  Calls Tryz.prog 58 #[.slice la lts.length lc,.int .i64 i] w (GivesN w (nextR (lks lts) i)):=by
 have OL:=Lib.hid h
 obtain⟨nl,hnl⟩:∃N:Nat,Hid (lts.length=N):=⟨_,Lib.hid rfl⟩
 have n600:nl≤10000:=by rw[←hnl.out];exact hf
 obtain⟨P0,hP0⟩:∃P:Ending→World→Prop,P=GivesN w (nextR (lks lts) i):=⟨_,rfl⟩
 rw[←hP0]
 have HP0:=Lib.hid hP0
 have LN:Hid ((lks lts).length=nl):=Lib.hid (by unfold lks;rw[List.length_map];exact hnl.out)
 rw[hnl.out]
 clear h hf hP0
 go_enter Tryz.func58,Tryz.ntmps58
 go_wp2_with fail
 go_loopw [5,10] (fun x s wr=>∃(m:Nat) (zs:List Int),m≤nl∧s= .int .i64 (m:Int)∧Hid (nextR ((lks lts).take m) i=zs)∧wr.ownsRow w.heap.size 3 1 x zs.length (nums zs)∧Gr w wr) (fun _ s _=>nl-(intOf s).toNat)
 case atStart=>exact⟨0,[],Nat.zero_le _,rfl,Lib.hid rfl,World.ownsRow_nil _ _ _ _,Gr.refl _⟩
 case round=>
  obtain⟨m,zs,hm,rfl,HZ,ho,hg⟩:=hrel
  obtain⟨va,vc,rfl⟩:=owns_slice ho
  have OW:=Lib.hid ho
  have HG:=Lib.hid hg
  have ZL:Hid (zs.length≤m):=Lib.hid (by
   have:=nextR_len ((lks lts).take m) i
   rw[HZ.out] at this
   exact Nat.le_trans this (by rw[List.length_take];omega))
  clear ho hg
  by_cases hml:m<nl
  ·have hmt:m<lts.length:=by rw[hnl.out];exact hml
   obtain⟨g2,e2, -,p0,p1,p2,p3,p4⟩:=lk_at (Gr.owns OL.out HG.out) hmt
   subst e2
   obtain⟨t,ht⟩:∃t,lts[m]=t:=⟨_,rfl⟩
   have PS:Hid (nextR ((lks lts).take (m+1)) i=if t.l.node==i then putI zs t.l.prov else zs):=Lib.hid (by
    have hml2:m<(lks lts).length:=by rw[LN.out];exact hml
    have e:(lks lts)[m]=t.l:=by rw[lks_get hmt,ht]
    rw[nextR_step _ _ _ hml2,e,HZ.out])
   rw[ht] at p0 p1 p2 p3 p4
   obtain⟨tn,htn⟩:∃z,t.l.node=z:=⟨_,rfl⟩
   obtain⟨tp,htp⟩:∃z,t.l.prov=z:=⟨_,rfl⟩
   rw[htn] at p0 PS
   rw[htp] at p1 PS
   have hp0:=has_of_cell p0
   have HML:=Lib.hid hml
   have mn:(m:Int)<(nl:Int):=by omega
   clear ht htn htp hml hm hmt
   go_upto_region 5 with(fail)
   have BX:=Lib.hid (Row.new wr #[.int .i64 tn,.int .i64 tp,.string (bs t.l.prop),.int .i64 t.l.idx,.slice t.a t.l.args.length t.c] 40)
   obtain⟨w8,hw8⟩:∃W:World,Hid (W=wr.alloc (.cells #[.int .i64 tn,.int .i64 tp,.string (bs t.l.prop),.int .i64 t.l.idx,.slice t.a t.l.args.length t.c] 40)):=⟨_,Lib.hid rfl⟩
   have g8:Gr wr w8:=by rw[hw8.out];exact(Gr.refl _).alloc _
   rw[←hw8.out] at BX ⊢
   obtain⟨PX,hPX⟩:∃N:Nat,Hid (wr.heap.size=N):=⟨_,Lib.hid rfl⟩
   rw[hPX.out] at BX ⊢
   have G8:=Lib.hid (HG.out.trans g8)
   have OW8:=Lib.hid (Gr.owns OW.out g8)
   clear hw8 hPX g8 p0 p1 p2 p3 p4 hp0
   have y0:=BX.out.cell 0 (by simp)
   have y1:=BX.out.cell 1 (by simp)
   simp only[List.getElem_cons_zero,List.getElem_cons_succ] at y0 y1
   have hy:=has_of_cell y0
   by_cases hpv:tn=i
   ·subst hpv
    have PS2:Hid (nextR ((lks lts).take (m+1)) tn=putI zs tp):=Lib.hid (by rw[PS.out,if_pos (by simp)])
    have PT:=Lib.hid (putI_any zs va vc w.heap.size tp w8 OW8.out G8.out.size (by have:=ZL.out;have:=HML.out;omega))
    go_wp2_with fail
    refine PT.out.mono ?_
    rintro e w9 ⟨v9,rfl,h9,hg9⟩
    have O9:=Lib.hid h9
    have G9:=Lib.hid (G8.out.trans hg9)
    clear h9 hg9 y0 y1 hy
    go_wp2_with fail
    go_roundw
    case rel=>exact⟨m+1,_,by have:=HML.out;omega,by go_num,PS2,O9.out,G9.out⟩
    case measure=>simp[intOf];have:=HML.out;omega
   ·have hb:(tn==i)=false:=by rw[beq_eq_false_iff_ne];exact hpv
    have PS2:Hid (nextR ((lks lts).take (m+1)) i=zs):=Lib.hid (by rw[PS.out,hb];rfl)
    clear hpv
    go_wp2_with fail
    go_roundw
    case rel=>exact⟨m+1,zs,by have:=HML.out;omega,by go_num,PS2,OW8.out,G8.out⟩
    case measure=>simp[intOf];have:=HML.out;omega
  ·have mn:¬(m:Int)<(nl:Int):=by omega
   have PE:Hid (nextR (lks lts) i=zs):=Lib.hid (by rw[←HZ.out,List.take_of_length_le (by rw[LN.out];omega)])
   clear hml
   go_wp2_with fail
   rw[HP0.out,PE.out]
   exact⟨_,rfl,OW.out,HG.out⟩
end Go.Proofs.YtdjhnfopdlgliaaGreat
