/- Lemmas and contracts for the proof of LinkAnswers (several texts in one, printed by wip/tools/pack.py): LsR LsO LsS LtA LtB LqH. -/
import Derived.Test.YtdjhnfopdlgliaaGreatLa1pw
import Derived.WalkMore
import Derived.Test.YtdjhnfopdlgliaaGreatLa1pe
import Derived.Test.YtdjhnfopdlgliaaGreatLa1pk
import Derived.Test.YtdjhnfopdlgliaaGreatLa1pm
import Derived.Test.YtdjhnfopdlgliaaGreatLa1pu
import Derived.Test.YtdjhnfopdlgliaaGreatLa1pv
set_option maxRecDepth 100000
set_option maxHeartbeats 16000000
set_option linter.unusedVariables false
set_option linter.unusedSimpArgs false
namespace Go.Proofs.YtdjhnfopdlgliaaGreat
open Go.RowKit
open Classical
theorem allE_ok{ts:Tr}{pn cn:St}{ls:List Lnk}(h:allE ts pn cn= .ok ls):chkT ts=0∧allT ts pn cn ts.length= .ok ls:=by
 unfold allE at h
 by_cases h0:chkT ts=0
 ·rw[if_neg (by rw[h0];simp)] at h;exact⟨h0,h⟩
 ·rw[if_pos h0] at h;cases h
theorem allE_err{ts:Tr}{pn cn:St}{er:Int}(h:allE ts pn cn= .error er):er≠0:=by
 unfold allE at h
 by_cases h0:chkT ts=0
 ·rw[if_neg (by rw[h0];simp)] at h
  have E0:=graphT_err (show graphT ts pn cn= .error er by unfold graphT;rw[h])
  omega
 ·rw[if_pos h0] at h;injection h with h;subst h;exact h0
def fnd(p:Nat→Bool)(a n:Nat):Option Nat:=(List.range' a (n-a)).find? p
theorem fnd_end(p:Nat→Bool)(n:Nat):fnd p n n=none:=by simp[fnd]
theorem fnd_step{p:Nat→Bool}{a n:Nat}(h:a<n):fnd p a n=if p a=true then some a else fnd p (a+1) n:=by
 unfold fnd
 rw[show n-a=(n-(a+1))+1 by omega,List.range'_succ,List.find?_cons]
 cases p a<;>rfl
theorem fnd_zero(p:Nat→Bool)(n:Nat):fnd p 0 n=(List.range n).find? p:=by unfold fnd;rw[Nat.sub_zero,List.range_eq_range']
def optI:Option Nat→Int
 |none=> -1
 |some k=>k
theorem optI_ways(o:Option Nat):(o=none∧optI o= -1)∨∃k:Nat,o=some k∧optI o=(k:Int):=by
 cases o with
 |none=>exact .inl ⟨rfl,rfl⟩
 |some k=>exact .inr ⟨k,rfl,rfl⟩
def orderE(ts:Tr)(pn cn:St):Except Int (List Int):=
 match allE ts pn cn with
 | .error e=> .error e
 | .ok ls=>rOrderF ls ts.length ts.length []
theorem all_snocB(p:Int→Bool)(l:List Int)(m:Nat)(h:m<l.length):(l.take (m+1)).all p=((l.take m).all p&&p l[m]):=by
 rw[List.take_succ_eq_append_getElem h,List.all_append]
 simp
theorem rOrderE_any(ts:Tr)(a:Option Addr)(cap:Nat)(pn cn:St)(w:World)(h:SlOf 3 RNod w a ts)(hf:ts.length≤1000000):
  Calls Tryz.prog 30 #[.agg #[.slice a ts.length cap],.string (bs pn),.string (bs cn)] w (GivesI w (orderE ts pn cn)):=by
 have H:=Lib.hid h
 obtain⟨i0,hi0,hz0,hz1,hz2⟩:=info_parts infoInt
 have AL:=Lib.hid (fun w h=>rAllE_any ts a cap pn cn w h hf)
 obtain⟨R,hR⟩:∃R,orderE ts pn cn=R:=⟨_,rfl⟩
 have HR:=Lib.hid hR
 rw[hR]
 obtain⟨P0,hP0⟩:∃P:Ending→World→Prop,P=GivesI w R:=⟨_,rfl⟩
 rw[←hP0]
 have HP0:=Lib.hid hP0
 clear h hR hP0
 go_enter Tryz.func30,Tryz.ntmps30
 go_wp2_with fail
 have RB:=Lib.hid (Row.new w #[.slice a ts.length cap] 31)
 obtain⟨W1,hW1⟩:∃W:World,Hid (W=w.alloc (.cells #[.slice a ts.length cap] 31)):=⟨_,Lib.hid rfl⟩
 rw[←hW1.out] at RB ⊢
 have G1:Hid (Gr w W1):=Lib.hid (by rw[hW1.out];exact(Gr.refl _).alloc _)
 obtain⟨PB,hPB⟩:∃N:Nat,Hid (w.heap.size=N):=⟨_,Lib.hid rfl⟩
 rw[hPB.out] at RB ⊢
 clear hW1 hPB
 refine(AL.out W1 (H.out.gr RNod.mono G1.out)).mono ?_
 intro e w2 hgv
 cases hz:allE ts pn cn with
 |error er=>
  rw[hz] at hgv
  have RE2:Hid (R= .error er):=Lib.hid (by rw[←HR.out];unfold orderE;rw[hz])
  have eb:(er==0)=false:=by rw[beq_eq_false_iff_ne];exact allE_err hz
  obtain⟨rfl,hg2⟩:=hgv
  have G3:=Lib.hid (G1.out.trans hg2)
  clear hg2 hz RB
  go_wp2_with fail
  rw[HP0.out,RE2.out]
  exact⟨rfl,G3.out⟩
 |ok ls=>
  rw[hz] at hgv
  obtain⟨hc,hal⟩:=allE_ok hz
  obtain⟨n,hn⟩:∃N:Nat,Hid (ts.length=N):=⟨_,Lib.hid rfl⟩
  have RE2:Hid (R=rOrderF ls n n []):=Lib.hid (by rw[←HR.out,←hn.out];unfold orderE;rw[hz])
  have n120:n≤120:=by rw[←hn.out];exact(good_of hc).len.2
  have n600:=allT_few hc hal
  obtain⟨lv,lts,rfl,hlk,how,hlr,hg2⟩:=hgv
  obtain⟨la,lc,rfl⟩:=owns_slice how
  have G3:=Lib.hid (G1.out.trans hg2)
  have NX:=fun i W (hW:Gr w2 W)=>next_any lts la lc _ i W (Gr.owns how hW) (by rw[←hlk] at n600;simpa [lks] using n600)
  rw[hlk] at NX
  have RB2:=Lib.hid (RB.out.gr hg2)
  have NXL:=Lib.hid (fun i=>nextR_len ls i)
  obtain⟨nl,hnl⟩:∃N:Nat,Hid (lts.length=N):=⟨_,Lib.hid rfl⟩
  have LN:Hid (ls.length=nl):=Lib.hid (by rw[←hlk];unfold lks;rw[List.length_map];exact hnl.out)
  rw[LN.out] at n600
  rw[hnl.out] at NX ⊢
  have NX:=Lib.hid NX
  rw[hn.out] at RB2
  clear hg2 how hlr hlk hz RB hc hal HR
  go_wp2_with fail
  go_loopw [10] (fun v wr=>∃(out:List Int),Hid (rOrderF ls n (n-out.length) out=R)∧out.length≤n∧(∀z∈out,Wide z)∧wr.ownsRow w2.heap.size 3 1 v out.length (nums out)∧Gr w2 wr) (fun v _=>n-sliceLen v)
  case atStart=>exact⟨[],Lib.hid RE2.out.symm,Nat.zero_le _,fun z h=>by simp at h,World.ownsRow_nil _ _ _ _,Gr.refl _⟩
  case round=>
   obtain⟨out,HO,hol,hwd,ho,hg⟩:=hrel
   obtain⟨va,vc,rfl⟩:=owns_slice ho
   have OW:=Lib.hid ho
   have HG:=Lib.hid hg
   have WD:=Lib.hid hwd
   have x0:=(RB2.out.gr hg).cell 0 (by simp)
   simp only[List.getElem_cons_zero] at x0
   have hx:=has_of_cell x0
   obtain⟨m,hm⟩:∃N:Nat,Hid (out.length=N):=⟨_,Lib.hid rfl⟩
   have INA:=fun x W (hW:Gr wr W)=>in_any out va vc w2.heap.size x W (Gr.owns OW.out hW) (by omega)
   rw[hm.out] at hol HO INA ⊢
   have INA:=Lib.hid INA
   clear ho hg hwd
   by_cases hlt:m<n
   ·have mn:(m:Int)<(n:Int):=by omega
    obtain⟨f,hf2⟩:∃f,n-m=f+1:=⟨n-m-1,by omega⟩
    have ST:Hid (R=match fnd (readyR ls out) 0 n with|none=> .error 10|some i=>rOrderF ls n f (out++ [(i:Int)])):=Lib.hid (by
     rw[←HO.out,hf2,rOrderF,fnd_zero];rfl)
    have FM:Hid (f=n-(m+1)):=Lib.hid (by omega)
    have HLT:=Lib.hid hlt
    clear hf2 hlt
    go_wp2_with fail
    clear x0 hx
    obtain⟨w7,rfl⟩:∃wo,wo=wr:=⟨_,rfl⟩
    go_loopw [11,12] (fun fv iv wr=>∃(q:Nat) (x:Int),q≤n∧x=(q:Int)-1∧iv= .int .i64 x∧fv= .int .i64 (optI (fnd (readyR ls out) q n))∧Gr w7 wr) (fun _ iv _=>(intOf iv+1).toNat)
    case atStart=>exact⟨n,(n:Int)-1,Nat.le_refl _,rfl,by first|rfl|go_num,by rw[fnd_end];rfl,by first|exact Gr.refl _|exact(Gr.refl _).drewN _⟩
    case round=>
     obtain⟨q,x,hq,hxq,rfl,rfl,hg⟩:=hrel
     have HG7:=Lib.hid hg
     clear hg
     rcases Nat.eq_zero_or_pos q with q0|q0
     ·subst q0
      obtain rfl:x= -1:=by omega
      clear hxq hq
      have RF:Hid (∀i,fnd (readyR ls out) 0 n=some i→i<n):=Lib.hid (fun i hi=>by
       rw[fnd_zero] at hi
       exact List.mem_range.1 (List.mem_of_find?_eq_some hi))
      rcases optI_ways (fnd (readyR ls out) 0 n) with⟨e1,e2⟩|⟨i,e1,e2⟩
      ·have RE:Hid (R= .error 10):=Lib.hid (by rw[ST.out,e1])
       rw[e2]
       clear e1 e2
       go_wp2_with fail
       rw[HP0.out,RE.out]
       exact⟨rfl,(G3.out.trans HG.out).trans HG7.out⟩
      ·have RE:Hid (R=rOrderF ls n f (out++ [(i:Int)])):=Lib.hid (by rw[ST.out,e1])
       have hin:i<n:=RF.out i e1
       rw[e2]
       have OW7:=Lib.hid (Gr.owns OW.out HG7.out)
       have ML:=Lib.hid hm.out
       rw[hm.out] at OW7
       have bi:decide ((i:Int)<0)=false:=decide_eq_false (by omega)
       clear e1 e2 RF
       have NR:=Lib.hid (row_cells (Row.new wr #[.int .i64 (i:Int)] 3))
       go_wp2_with (at_builtin;refine wpList_append_own _ rfl _ _ 38 rfl w2.heap.size 3 i0 (.int .i64 0) 1 8 Tryz.underlying38 hi0 hz0 hz1 hz2 rfl (by decide) (.slice va m vc) m (nums out) rfl (OW7.out.alloc _) ⟨wr.heap.size,0,none⟩ 1 1 [.int .i64 (i:Int)] rfl rfl NR.out (by intro u hu;rw[List.mem_singleton.1 hu];rfl) (by unfold maxLen;omega) (by omega) (by have:=(HG.out.trans HG7.out).size;simp;omega) ?_;intro v' wz hown' hgrow hnil;have HOz:=Lib.hid hown';have HGz:=Lib.hid hgrow;clear hown' hgrow hnil)
       obtain⟨va9,vc9,e9⟩:=owns_slice HOz.out
       subst e9
       go_roundw
       case rel=>
        have ga:Gr wr (wr.alloc (.cells #[.int .i64 (i:Int)] 3)):=(Gr.refl wr).alloc _
        have OA:=Gr.owns OW7.out ga
        refine⟨out++ [(i:Int)],Lib.hid ?_,?_,?_,?_,((HG.out.trans HG7.out).trans ga).grown HGz.out (fun j e=>(OA.lt j e).1)⟩
        ·rw[List.length_append,ML.out,RE.out,FM.out];rfl
        ·rw[List.length_append,ML.out];have:=HLT.out;simp;omega
        ·intro z hz
         rcases List.mem_append.1 hz with hz|hz
         ·exact WD.out z hz
         ·rw[List.mem_singleton.1 hz];unfold Wide;omega
        ·have:=HOz.out
         rw[List.length_append,ML.out]
         simpa [nums] using this
       case measure=>simp[sliceLen];have:=HLT.out;omega
     ·obtain⟨q,rfl⟩:∃z,q=z+1:=⟨q-1,by omega⟩
      obtain rfl:x=(q:Int):=by omega
      have q120:q<n:=by omega
      have qn:(q:Int)<(n:Int):=by omega
      have IQ:=INA.out (q:Int) wr HG7.out
      have FS:=fnd_step (p:=readyR ls out) q120
      obtain⟨b,hb⟩:∃b,out.contains (q:Int)=b:=⟨_,rfl⟩
      have RQ:Hid (readyR ls out q=(!b&&(nextR ls q).all (fun y=>out.contains y))):=Lib.hid (by unfold readyR;rw[hb])
      have FS:=Lib.hid FS
      rw[hb] at IQ
      clear hb hxq q0 hq
      go_wp2_with fail
      refine IQ.mono ?_
      rintro e w8 ⟨rfl,hg8⟩
      have G8:=Lib.hid (HG7.out.trans hg8)
      clear hg8 IQ
      cases b with
      |true=>
       have FE:Hid (fnd (readyR ls out) q n=fnd (readyR ls out) (q+1) n):=Lib.hid (by rw[FS.out,if_neg (by rw[RQ.out];simp)])
       go_wp2_with fail
       go_roundw
       case rel=>exact⟨q,(q:Int)-1,by omega,rfl,by first|rfl|go_num,by rw[FE.out],G8.out⟩
       case measure=>simp[intOf]<;>omega
      |false=>
       go_wp2_with fail
       refine(NX.out (q:Int) w8 (HG.out.trans G8.out)).mono ?_
       rintro e w9 ⟨v9,rfl,h9,hg9⟩
       obtain⟨xa,xc,rfl⟩:=owns_slice h9
       have O9:=Lib.hid h9
       have G9:=Lib.hid (G8.out.trans hg9)
       obtain⟨nx,hnx⟩:∃l,nextR ls (q:Int)=l:=⟨_,rfl⟩
       have RQ2:Hid (readyR ls out q=nx.all (fun y=>out.contains y)):=Lib.hid (by rw[RQ.out,hnx];simp)
       have NL2:nx.length≤10000:=by rw[←hnx];have:=NXL.out (q:Int);rw[LN.out] at this;omega
       rw[hnx] at O9 ⊢
       obtain⟨xl,hxl⟩:∃N:Nat,Hid (nx.length=N):=⟨_,Lib.hid rfl⟩
       rw[hxl.out] at NL2 ⊢
       clear h9 hg9 hnx RQ
       go_wp2_with fail
       go_loopw [13,47] (fun b s wr=>∃j:Nat,j≤xl∧s= .int .i64 (j:Int)∧b= .bool ((nx.take j).all (fun y=>out.contains y))∧Gr w9 wr) (fun _ s _=>xl-(intOf s).toNat)
       case atStart=>exact⟨0,Nat.zero_le _,rfl,rfl,by first|exact Gr.refl _|exact(Gr.refl _).drewN _⟩
       case round=>
        obtain⟨j,hj,rfl,rfl,hg⟩:=hrel
        have HG9:=Lib.hid hg
        clear hg
        by_cases hjl:j<xl
        ·have hjx:j<nx.length:=by rw[hxl.out];exact hjl
         obtain⟨g,eg,d0⟩:=nm_at (Gr.owns O9.out HG9.out) hjx
         subst eg
         have SN:=all_snocB (fun y=>out.contains y) nx j hjx
         obtain⟨y,hy⟩:∃z,nx[j]=z:=⟨_,rfl⟩
         obtain⟨b,hb⟩:∃b,(nx.take j).all (fun y=>out.contains y)=b:=⟨_,rfl⟩
         rw[hy] at d0 SN
         rw[hb] at SN ⊢
         have SN:=Lib.hid SN
         have hd:=has_of_cell d0
         have jn:(j:Int)<(xl:Int):=by omega
         have HJL:=Lib.hid hjl
         clear hy hb hjl hj hjx
         cases b with
         |false=>
          go_wp2_with fail
          go_roundw
          case rel=>exact⟨j+1,by have:=HJL.out;omega,by go_num,by rw[SN.out];rfl,HG9.out⟩
          case measure=>simp[intOf];have:=HJL.out;omega
         |true=>
          have IY:=INA.out y wr (G9.out.trans HG9.out)
          obtain⟨b2,hb2⟩:∃b,out.contains y=b:=⟨_,rfl⟩
          have SN2:Hid ((nx.take (j+1)).all (fun y=>out.contains y)=b2):=Lib.hid (by rw[SN.out,hb2];rfl)
          rw[hb2] at IY
          clear hb2
          go_wp2_with fail
          refine IY.mono ?_
          rintro e w10 ⟨rfl,hg10⟩
          have G10:=Lib.hid (HG9.out.trans hg10)
          clear hg10 IY d0 hd
          go_wp2_with fail
          go_roundw
          case rel=>exact⟨j+1,by have:=HJL.out;omega,by go_num,by rw[SN2.out],G10.out⟩
          case measure=>simp[intOf];have:=HJL.out;omega
        ·obtain rfl:xl=j:=by omega
         have jn:¬(xl:Int)<(xl:Int):=by omega
         have TA:Hid ((nx.take xl).all (fun y=>out.contains y)=readyR ls out q):=Lib.hid (by rw[RQ2.out,List.take_of_length_le (by rw[hxl.out];exact Nat.le_refl _)])
         rw[TA.out]
         obtain⟨b,hb⟩:∃b,readyR ls out q=b:=⟨_,rfl⟩
         rw[hb]
         have FE:Hid (fnd (readyR ls out) q n=if b=true then some q else fnd (readyR ls out) (q+1) n):=Lib.hid (by rw[FS.out,hb])
         clear hb hjl hj
         cases b with
         |false=>
          go_wp2_with fail
          go_roundw
          case rel=>exact⟨q,(q:Int)-1,by omega,rfl,by first|rfl|go_num,by rw[FE.out];rfl,G9.out.trans HG9.out⟩
          case measure=>simp[intOf]<;>omega
         |true=>
          go_wp2_with fail
          go_roundw
          case rel=>exact⟨q,(q:Int)-1,by omega,rfl,by first|rfl|go_num,by rw[FE.out];rfl,G9.out.trans HG9.out⟩
          case measure=>simp[intOf]<;>omega
   ·obtain rfl:n=m:=by omega
    have mn:¬(n:Int)<(n:Int):=by omega
    have RE:Hid (R= .ok out):=Lib.hid (by rw[←HO.out,Nat.sub_self];rfl)
    have OW2:Hid (wr.ownsRow w.heap.size 3 1 (.slice va n vc) out.length (nums out)):=Lib.hid (by have:=owns_low OW.out G3.out.size;rw[hm.out] at this ⊢;exact this)
    clear hlt hol
    go_wp2_with fail
    rw[HP0.out,RE.out]
    exact⟨_,rfl,OW2.out,WD.out,G3.out.trans HG.out⟩
def circleE(ts:Tr)(pn cn:St):Except Int (List Int):=
 match allE ts pn cn with
 | .error e=> .error e
 | .ok ls=> .ok (circleR ls ts.length)
theorem candR_lt{ls:List Lnk}{n i:Nat}{k:Int}(h:k<(i:Int)):candR ls n i k= []:=by unfold candR;rw[if_pos h]
theorem candR_eq(ls:List Lnk)(n i:Nat):candR ls n i (i:Int)= [(i:Int)]:=by unfold candR;rw[if_neg (by omega),if_pos rfl]
theorem candR_gt{ls:List Lnk}{n i k:Nat}(h:i<k):candR ls n i (k:Int)=if rWay ls n k i= [] then [] else(i:Int)::(rWay ls n k i).dropLast:=by
 unfold candR
 rw[if_neg (by omega),if_neg (by omega),Int.toNat_natCast]
theorem bestK_nil(b:List Int):bestK b []=b:=by unfold bestK;rw[if_neg (by simp)]
theorem fold_snocK(ls:List Lnk)(n i:Nat)(nx:List Int)(j:Nat)(h:j<nx.length)(b0:List Int):(nx.take (j+1)).foldl (fun b k=>bestK b (candR ls n i k)) b0=bestK ((nx.take j).foldl (fun b k=>bestK b (candR ls n i k)) b0) (candR ls n i nx[j]):=by
 rw[List.take_succ_eq_append_getElem h,List.foldl_append];rfl
theorem fold_snocI(ls:List Lnk)(n k:Nat):(List.range (k+1)).foldl (fun b (i:Nat)=>(nextR ls (i:Int)).foldl (fun b k=>bestK b (candR ls n i k)) b) []=(nextR ls (k:Int)).foldl (fun b y=>bestK b (candR ls n k y)) ((List.range k).foldl (fun b (i:Nat)=>(nextR ls (i:Int)).foldl (fun b k=>bestK b (candR ls n i k)) b) []):=by
 rw[List.range_succ,List.foldl_append];rfl
theorem rCircleE_any(ts:Tr)(a:Option Addr)(cap:Nat)(pn cn:St)(w:World)(h:SlOf 3 RNod w a ts)(hf:ts.length≤1000000):
  Calls Tryz.prog 29 #[.agg #[.slice a ts.length cap],.string (bs pn),.string (bs cn)] w (GivesI w (circleE ts pn cn)):=by
 have H:=Lib.hid h
 obtain⟨i0,hi0,hz0,hz1,hz2⟩:=info_parts infoInt
 have he2:∀(W:World),(binOp .eql 38 (.slice none 0 0) (.slice none 0 0)).run Tryz.prog W= .ok (.bool true) W:=fun _=>rfl
 have he3:∀(W:World) (g n c:Nat),(binOp .eql 38 (.slice (some ⟨g,0,none⟩) n c) (.slice none 0 0)).run Tryz.prog W= .ok (.bool false) W:=fun _ _ _ _=>rfl
 have AL:=Lib.hid (fun w h=>rAllE_any ts a cap pn cn w h hf)
 obtain⟨R,hR⟩:∃R,circleE ts pn cn=R:=⟨_,rfl⟩
 have HR:=Lib.hid hR
 rw[hR]
 obtain⟨P0,hP0⟩:∃P:Ending→World→Prop,P=GivesI w R:=⟨_,rfl⟩
 rw[←hP0]
 have HP0:=Lib.hid hP0
 clear h hR hP0
 go_enter Tryz.func29,Tryz.ntmps29
 go_wp2_with fail
 have RB:=Lib.hid (Row.new w #[.slice a ts.length cap] 31)
 obtain⟨W1,hW1⟩:∃W:World,Hid (W=w.alloc (.cells #[.slice a ts.length cap] 31)):=⟨_,Lib.hid rfl⟩
 rw[←hW1.out] at RB ⊢
 have G1:Hid (Gr w W1):=Lib.hid (by rw[hW1.out];exact(Gr.refl _).alloc _)
 obtain⟨PB,hPB⟩:∃N:Nat,Hid (w.heap.size=N):=⟨_,Lib.hid rfl⟩
 rw[hPB.out] at RB ⊢
 clear hW1 hPB
 refine(AL.out W1 (H.out.gr RNod.mono G1.out)).mono ?_
 intro e w2 hgv
 cases hz:allE ts pn cn with
 |error er=>
  rw[hz] at hgv
  have RE2:Hid (R= .error er):=Lib.hid (by rw[←HR.out];unfold circleE;rw[hz])
  have eb:(er==0)=false:=by rw[beq_eq_false_iff_ne];exact allE_err hz
  obtain⟨rfl,hg2⟩:=hgv
  have G3:=Lib.hid (G1.out.trans hg2)
  clear hg2 hz RB
  go_wp2_with fail
  rw[HP0.out,RE2.out]
  exact⟨rfl,G3.out⟩
 |ok ls=>
  rw[hz] at hgv
  obtain⟨hc,hal⟩:=allE_ok hz
  have n120:ts.length≤120:=(good_of hc).len.2
  have n600:=allT_few hc hal
  obtain⟨lv,lts,rfl,hlk,how,hlr,hg2⟩:=hgv
  obtain⟨la,lc,rfl⟩:=owns_slice how
  have G3:=Lib.hid (G1.out.trans hg2)
  have hl600:lts.length≤10000:=by rw[←hlk] at n600;simpa [lks] using n600
  have NX:=fun i W (hW:Gr w2 W)=>next_any lts la lc _ i W (Gr.owns how hW) hl600
  obtain⟨_,h2,h3,_⟩:=graph_of hal
  obtain⟨gs,hgs⟩:∃gs,(rawG ts.length ls).map normG=gs:=⟨_,rfl⟩
  have GN:=fun i (hi:i<gs.length)=>(by rw[←hgs];exact graph_next hal (by rw[←h2,hgs];exact hi):gs.getD i []=nextR ls i)
  rw[hgs] at h2 h3
  have GL:∀x∈ls,LnkIn gs.length x:=fun x hx=>by
   rw[h2]
   obtain⟨⟨i,e1,e2⟩,j,e3,e4⟩:=allT_mem _ _ hal x hx
   exact⟨i,j,e1,e2,e3,e4⟩
  have WY:=fun frm tt W (hW:Gr w2 W) (h1:frm<ts.length) (h4:tt<ts.length)=>way_any gs lts la lc _ ts.length frm tt W (Gr.owns how hW) hl600 h3 (by rw[hlk];exact GN) (by rw[hlk];exact GL) h2 n120 h1 h4
  have NI:=Lib.hid (fun a (ha:a<ts.length)=>nextR_in h3 GN (a:=a) (by rw[h2];exact ha))
  rw[h2] at NI
  rw[hlk] at NX WY
  have RB2:=Lib.hid (RB.out.gr hg2)
  have NXL:=Lib.hid (fun i=>nextR_len ls i)
  have WL:=Lib.hid (fun frm tt (h:frm<ts.length)=>rWay_ok (n:=ts.length) (tt:=tt) NI.out h)
  obtain⟨n,hn⟩:∃N:Nat,Hid (ts.length=N):=⟨_,Lib.hid rfl⟩
  have RE2:Hid (R= .ok (circleR ls n)):=Lib.hid (by rw[←HR.out,←hn.out];unfold circleE;rw[hz])
  obtain⟨nl,hnl⟩:∃N:Nat,Hid (lts.length=N):=⟨_,Lib.hid rfl⟩
  have LN:Hid (ls.length=nl):=Lib.hid (by rw[←hlk];unfold lks;rw[List.length_map];exact hnl.out)
  rw[LN.out] at n600
  rw[hnl.out] at NX WY ⊢
  rw[hn.out] at WY NI WL n120 RB2
  have NX:=Lib.hid NX
  have WY:=Lib.hid WY
  clear hg2 how hlr hlk hz RB hc hal HR h2 h3 GN GL hgs hl600
  have x0:=RB2.out.cell 0 (by simp)
  simp only[List.getElem_cons_zero] at x0
  have hx:=has_of_cell x0
  go_wp2_with fail
  clear x0 hx
  go_loopw [10,29] (fun v s wr=>∃(k:Nat) (b:List Int),k≤n∧s= .int .i64 (k:Int)∧Hid ((List.range k).foldl (fun b (i:Nat)=>(nextR ls (i:Int)).foldl (fun b k=>bestK b (candR ls n i k)) b) []=b)∧wr.ownsRow w2.heap.size 3 1 v b.length (nums b)∧(b= []→v= .slice none 0 0)∧b.length≤130∧(∀z∈b,Wide z)∧Gr w2 wr) (fun _ s _=>n-(intOf s).toNat)
  case atStart=>exact⟨0,[],Nat.zero_le _,rfl,Lib.hid rfl,World.ownsRow_nil _ _ _ _,fun _=>rfl,by simp,fun z h=>by simp at h,by first|exact Gr.refl _|exact(Gr.refl _).drewN _⟩
  case round=>
   obtain⟨i,b0,hi,rfl,HB0,ho,hbn,hbb,hbw,hg⟩:=hrel
   obtain⟨va,vc,rfl⟩:=owns_slice ho
   have OB:=Lib.hid ho
   have BN:=Lib.hid hbn
   have BB:=Lib.hid hbb
   have BW:=Lib.hid hbw
   have HG:=Lib.hid hg
   clear ho hbn hbb hbw hg
   obtain⟨bl,hbl⟩:∃N:Nat,Hid (b0.length=N):=⟨_,Lib.hid rfl⟩
   by_cases hin:i<n
   ·have in2:(i:Int)<(n:Int):=by omega
    have NNI:=Lib.hid (NI.out i hin)
    have HIN:=Lib.hid hin
    clear hin hi
    rw[hbl.out]
    go_wp2_with fail
    refine(NX.out (i:Int) wr HG.out).mono ?_
    rintro e w7 ⟨v9,rfl,h9,hg9⟩
    obtain⟨xa,xc,rfl⟩:=owns_slice h9
    have O9:=Lib.hid h9
    have G7:=Lib.hid (HG.out.trans hg9)
    have OB7:=Lib.hid (Gr.owns OB.out hg9)
    obtain⟨nx,hnx⟩:∃l,nextR ls (i:Int)=l:=⟨_,rfl⟩
    have FI:Hid ((List.range (i+1)).foldl (fun b (i:Nat)=>(nextR ls (i:Int)).foldl (fun b k=>bestK b (candR ls n i k)) b) []=nx.foldl (fun b k=>bestK b (candR ls n i k)) b0):=Lib.hid (by rw[fold_snocI,HB0.out,hnx])
    have NL2:nx.length≤10000:=by rw[←hnx];have:=NXL.out (i:Int);rw[LN.out] at this;omega
    rw[hnx] at O9 NNI ⊢
    obtain⟨xl,hxl⟩:∃N:Nat,Hid (nx.length=N):=⟨_,Lib.hid rfl⟩
    rw[hxl.out] at NL2 ⊢
    clear h9 hg9 hnx OB
    go_wp2_with fail
    go_loopw [10,36] (fun v s wr=>∃(j:Nat) (b:List Int),j≤xl∧s= .int .i64 (j:Int)∧Hid ((nx.take j).foldl (fun b k=>bestK b (candR ls n i k)) b0=b)∧wr.ownsRow w2.heap.size 3 1 v b.length (nums b)∧(b= []→v= .slice none 0 0)∧b.length≤130∧(∀z∈b,Wide z)∧Gr w7 wr) (fun _ s _=>xl-(intOf s).toNat)
    case atStart=>exact⟨0,b0,Nat.zero_le _,rfl,Lib.hid rfl,by have:=OB7.out;rw[hbl.out] at this ⊢;exact this,by have:=BN.out;rw[hbl.out] at this;exact this,BB.out,BW.out,by first|exact Gr.refl _|exact(Gr.refl _).drewN _⟩
    case round=>
     clear OB7 BN BB BW hbl
     obtain⟨j,b,hj,rfl,HB,ho,hbn,hbb,hbw,hg⟩:=hrel
     obtain⟨va,vc,rfl⟩:=owns_slice ho
     have BN:=Lib.hid hbn
     have BB:=Lib.hid hbb
     have BW:=Lib.hid hbw
     have HG7:=Lib.hid hg
     obtain⟨bl,hbl⟩:∃N:Nat,b.length=N:=⟨_,rfl⟩
     have BL:=Lib.hid hbl
     have hbl2:bl≤130:=by rw[←hbl];exact hbb
     have OBB:=Lib.hid ho
     rw[hbl] at BN ⊢
     clear ho hbn hbb hbw hg hbl
     by_cases hjl:j<xl
     ·have hjx:j<nx.length:=by rw[hxl.out];exact hjl
      obtain⟨g,eg,d0⟩:=nm_at (Gr.owns O9.out HG7.out) hjx
      subst eg
      obtain⟨y,hy,hyn⟩:=NNI.out _ (List.getElem_mem hjx)
      have SN:=fold_snocK ls n i nx j hjx b0
      rw[HB.out,hy] at SN
      have SN:=Lib.hid SN
      rw[hy] at d0
      have hd:=has_of_cell d0
      have jn:(j:Int)<(xl:Int):=by omega
      have HJL:=Lib.hid hjl
      have yn:(y:Int)<(n:Int):=by omega
      have HYN:=Lib.hid hyn
      have inn:i<n:=HIN.out
      clear hy hjl hj hjx
      rcases Nat.lt_trichotomy y i with hyi|hyi|hyi
      ·have b1:decide ((y:Int)<(i:Int))=true:=decide_eq_true (by omega)
       have FE2:Hid ((nx.take (j+1)).foldl (fun b k=>bestK b (candR ls n i k)) b0=b):=Lib.hid (by rw[SN.out,candR_lt (by omega),bestK_nil])
       go_wp2_with fail
       go_roundw
       case rel=>exact⟨j+1,b,by have:=HJL.out;omega,by go_num,FE2,by have:=OBB.out;rw[BL.out] at this ⊢;exact this,by rw[←BL.out] at BN ⊢;exact BN.out,BB.out,BW.out,HG7.out⟩
       case measure=>simp[intOf];have:=HJL.out;omega
      ·subst hyi
       have b1:decide ((y:Int)<(y:Int))=false:=decide_eq_false (by omega)
       obtain⟨c,hcE⟩:∃c:List Int,c= [(y:Int)]:=⟨_,rfl⟩
       have FE:Hid ((nx.take (j+1)).foldl (fun b k=>bestK b (candR ls n y k)) b0=bestK b c):=Lib.hid (by rw[SN.out,candR_eq,hcE])
       have CN:Hid (c≠ []):=Lib.hid (by rw[hcE];simp)
       have CB:Hid (c.length≤130):=Lib.hid (by rw[hcE];simp)
       have CW:Hid (∀z∈c,Wide z):=Lib.hid (by rw[hcE];intro z hz;rw[List.mem_singleton.1 hz];unfold Wide;omega)
       have CLN:Hid (c.length=1):=Lib.hid (by rw[hcE];rfl)
       have CE:=Lib.hid hcE
       clear hcE
       have ON:=Lib.hid (owns_newI wr [(y:Int)] #[.int .i64 (y:Int)] rfl 3 w2.heap.size wr.heap.size 1 rfl rfl (G7.out.trans HG7.out).size (by omega))
       obtain⟨w9,hw9⟩:∃W:World,Hid (W=wr.alloc (.cells #[.int .i64 (y:Int)] 3)):=⟨_,Lib.hid rfl⟩
       have g9:Gr wr w9:=by rw[hw9.out];exact(Gr.refl _).alloc _
       have GC:=Lib.hid (HG7.out.trans g9)
       have OB2:Hid (w9.ownsRow w2.heap.size 3 1 (.slice va bl vc) bl (nums b)):=Lib.hid (by have:=Gr.owns OBB.out g9;rw[BL.out] at this;exact this)
       have OC:Hid (w9.ownsRow w2.heap.size 3 1 (.slice (some ⟨wr.heap.size,0,none⟩) 1 1) 1 (nums c)):=Lib.hid (by rw[hw9.out,CE.out];exact ON.out)
       go_upto_region 17 with(fail)
       rw[←hw9.out]
       clear ON g9 CE hw9
       by_cases hb0:b= []
       ·have v0:=BN.out hb0
        simp only[Value.slice.injEq] at v0
        obtain⟨rfl,rfl,rfl⟩:=v0
        have FE2:Hid ((nx.take (j+1)).foldl (fun b k=>bestK b (candR ls n y k)) b0=c):=Lib.hid (by rw[FE.out];unfold bestK;rw[if_pos ⟨CN.out,.inl hb0⟩])
        clear hb0
        go_wp2_with fail
        go_roundw
        case rel=>exact⟨j+1,c,by have:=HJL.out;omega,by go_num,FE2,by rw[CLN.out];exact OC.out,fun e=>absurd e CN.out,CB.out,CW.out,GC.out⟩
        case measure=>simp[intOf];have:=HJL.out;omega
       ·have hb1:0<b.length:=List.length_pos_iff.2 hb0
        have OB3:=OB2.out
        rw[←BL.out] at OB3
        obtain⟨gb,cb,eb,_,_,_⟩:=owns_cell OB3 hb1
        rw[BL.out] at eb
        simp only[Value.slice.injEq,true_and] at eb
        obtain⟨rfl,rfl⟩:=eb
        have HBN:=Lib.hid hb0
        clear hb0 hb1 OB3
        by_cases hcl:1<bl
        ·have cb1:decide ((1:Int)<(bl:Int))=true:=decide_eq_true (by omega)
         have cb2:decide (1<bl)=true:=decide_eq_true hcl
         have FE2:Hid ((nx.take (j+1)).foldl (fun b k=>bestK b (candR ls n y k)) b0=c):=Lib.hid (by rw[FE.out];unfold bestK;rw[if_pos ⟨CN.out,.inr (by rw[CLN.out,BL.out];exact hcl)⟩])
         clear hcl
         go_wp2_with fail
         go_roundw
         case rel=>exact⟨j+1,c,by have:=HJL.out;omega,by go_num,FE2,by rw[CLN.out];exact OC.out,fun e=>absurd e CN.out,CB.out,CW.out,GC.out⟩
         case measure=>simp[intOf];have:=HJL.out;omega
        ·have cb1:decide ((1:Int)<(bl:Int))=false:=decide_eq_false (by omega)
         have cb2:decide (1<bl)=false:=decide_eq_false hcl
         have FE2:Hid ((nx.take (j+1)).foldl (fun b k=>bestK b (candR ls n y k)) b0=b):=Lib.hid (by rw[FE.out];unfold bestK;rw[if_neg];rintro⟨_,q|q⟩;exact HBN.out q;rw[CLN.out,BL.out] at q;exact hcl q)
         clear hcl
         go_wp2_with fail
         go_roundw
         case rel=>exact⟨j+1,b,by have:=HJL.out;omega,by go_num,FE2,by rw[BL.out];exact OB2.out,fun e=>absurd e HBN.out,BB.out,BW.out,GC.out⟩
         case measure=>simp[intOf];have:=HJL.out;omega
      ·have b1:decide ((y:Int)<(i:Int))=false:=decide_eq_false (by omega)
       have b2:((y:Int)==(i:Int))=false:=by rw[beq_eq_false_iff_ne];omega
       obtain⟨ww,hww⟩:∃l,rWay ls n y i=l:=⟨_,rfl⟩
       have CG:Hid (candR ls n i (y:Int)=if ww= [] then [] else(i:Int)::ww.dropLast):=Lib.hid (by rw[candR_gt hyi,hww])
       have WWL:=WL.out y i hyn
       rw[hww] at WWL
       have WWI:=Lib.hid WWL.2
       have wwl:=WWL.1
       go_upto_region 14 with(fail)
       have ON:=Lib.hid (owns_newI wr [(i:Int)] #[.int .i64 (i:Int)] rfl 3 w2.heap.size wr.heap.size 1 rfl rfl (G7.out.trans HG7.out).size (by omega))
       obtain⟨w9,hw9⟩:∃W:World,Hid (W=wr.alloc (.cells #[.int .i64 (i:Int)] 3)):=⟨_,Lib.hid rfl⟩
       have g9:Gr wr w9:=by rw[hw9.out];exact(Gr.refl _).alloc _
       have G9:=Lib.hid (HG7.out.trans g9)
       have OB9:Hid (w9.ownsRow w2.heap.size 3 1 (.slice va bl vc) bl (nums b)):=Lib.hid (by have:=Gr.owns OBB.out g9;rw[BL.out] at this;exact this)
       have x0:=((RB2.out.gr (G7.out.trans G9.out))).cell 0 (by simp)
       simp only[List.getElem_cons_zero] at x0
       have hx:=has_of_cell x0
       have WC:=WY.out y i w9 (G7.out.trans G9.out) hyn inn
       rw[hww] at WC
       rw[←hw9.out] at ON
       have HCB:Hid (w7.heap.size≤wr.heap.size):=Lib.hid HG7.out.size
       have NE9:Hid ((Value.slice va bl vc).ownBlock=none∨(Value.slice va bl vc).ownBlock≠some wr.heap.size):=Lib.hid (by
        cases hz:(Value.slice va bl vc).ownBlock with
        |none=>exact .inl rfl
        |some g=>
         refine .inr fun e=>?_
         have q:=(owns_block OBB.out g (by rw[BL.out];exact hz)).2
         injection e with e
         omega)
       clear hww WWL g9 hyi
       rw[←hw9.out]
       obtain⟨CB9,hCB9⟩:∃N:Nat,Hid (wr.heap.size=N):=⟨_,Lib.hid rfl⟩
       rw[hCB9.out] at ON HCB NE9 ⊢
       clear hw9 hCB9
       go_wp2_with fail
       refine WC.mono ?_
       rintro e w10 ⟨vw,rfl,hw10,hg10⟩
       obtain⟨wa,wc,rfl⟩:=owns_slice hw10
       have OWW:=Lib.hid hw10
       have OC1:=Lib.hid (Gr.owns ON.out hg10)
       have G10:=Lib.hid (G9.out.trans hg10)
       have OB2:=Lib.hid (Gr.owns OB9.out hg10)
       obtain⟨wl,hwl⟩:∃N:Nat,ww.length=N:=⟨_,rfl⟩
       have WLN:=Lib.hid hwl
       rw[hwl] at wwl ⊢
       clear hw10 hg10 hwl WC ON OB9 x0 hx
       by_cases hw0:wl=0
       ·subst hw0
        have WN:Hid (ww= []):=Lib.hid (List.eq_nil_of_length_eq_zero WLN.out)
        have FE2:Hid ((nx.take (j+1)).foldl (fun b k=>bestK b (candR ls n i k)) b0=b):=Lib.hid (by rw[SN.out,CG.out,if_pos WN.out,bestK_nil])
        go_wp2_with fail
        go_roundw
        case rel=>exact⟨j+1,b,by have:=HJL.out;omega,by go_num,FE2,by rw[BL.out];exact OB2.out,by rw[←BL.out] at BN ⊢;exact BN.out,BB.out,BW.out,G10.out⟩
        case measure=>simp[intOf];have:=HJL.out;omega
       ·obtain⟨wl,rfl⟩:∃z,wl=z+1:=⟨wl-1,by omega⟩
        obtain⟨gw,cw,ew,hcw,_,hcell⟩:=owns_cell OWW.out (by rw[WLN.out];omega)
        simp only[Value.slice.injEq,true_and] at ew
        rw[WLN.out] at hcw hcell
        obtain⟨rfl,ew⟩:=ew
        have b3:(((wl:Int)+1)==0)=false:=by rw[beq_eq_false_iff_ne];omega
        clear hw0
        have w1c:wl≤cw:=by omega
        have w1i:(wl:Int)≤cw:=by omega
        have WLL:=Lib.hid WLN.out
        have ND:Hid (nums ww.dropLast=(nums ww).take wl):=Lib.hid (by rw[List.dropLast_eq_take,WLN.out];simp[nums,List.map_take])
        have GT:Hid (Gets w10 (some ⟨gw,0,none⟩) wl 1 (nums ww.dropLast)):=Lib.hid (by
         refine⟨by rw[nums_len,List.length_dropLast,WLN.out];omega,fun _=>⟨_,rfl,fun q u hu=>?_⟩⟩
         have hq:q<wl:=by
          have:=(List.getElem?_eq_some_iff.1 hu).1
          rw[nums_len,List.length_dropLast,WLN.out] at this
          omega
         rw[ND.out,List.getElem?_take_of_lt hq] at hu
         rw[Addr.add_lit,Nat.zero_add,hcell q (by omega),hu])
        have WWN:Hid (ww≠ []):=Lib.hid (fun e=>by have:=WLN.out;rw[e] at this;simp at this)
        have wlm:wl≤130:=by omega
        clear hcell hcw WLN
        go_upto_region 17 with(at_builtin;refine wpList_append_gets _ rfl _ _ 38 rfl w2.heap.size 3 i0 (.int .i64 0) 1 8 Tryz.underlying38 hi0 hz0 hz1 hz2 rfl (by decide) (.slice (some ⟨CB9,0,none⟩) 1 1) 1 (nums [(i:Int)]) rfl OC1.out (some ⟨gw,0,none⟩) wl cw (nums ww.dropLast) rfl GT.out (nums_one _) (by unfold maxLen;omega) (by omega) (by have:=(G7.out.trans G10.out).size;omega) ?_;intro v1 w11 hown hgrow hloc;have O11:=Lib.hid hown;have HGR:=Lib.hid hgrow;clear hown hgrow hloc)
        obtain⟨xc1,cc1,rfl⟩:=owns_slice O11.out
        have GC:Hid (Gr w7 w11):=Lib.hid (G10.out.grown HGR.out (fun k e=>by cases e;exact HCB.out))
        have OB3:Hid (w11.ownsRow w2.heap.size 3 1 (.slice va bl vc) bl (nums b)):=Lib.hid (OB2.out.kept HGR.out NE9.out)
        obtain⟨cl,hcl⟩:∃N:Nat,1+wl=N:=⟨_,rfl⟩
        obtain⟨c,hcE⟩:∃c:List Int,c=(i:Int)::ww.dropLast:=⟨_,rfl⟩
        have FE:Hid ((nx.take (j+1)).foldl (fun b k=>bestK b (candR ls n i k)) b0=bestK b c):=Lib.hid (by rw[SN.out,CG.out,if_neg WWN.out,hcE])
        have CN:Hid (c≠ []):=Lib.hid (by rw[hcE];simp)
        have CLN:Hid (c.length=cl):=Lib.hid (by rw[hcE,List.length_cons,List.length_dropLast,WLL.out];omega)
        have CB:Hid (c.length≤130):=Lib.hid (by rw[CLN.out];omega)
        have CW:Hid (∀z∈c,Wide z):=Lib.hid (by
         rw[hcE]
         intro z hz
         rcases List.mem_cons.1 hz with q|q
         ·rw[q];unfold Wide;omega
         ·obtain⟨x,rfl,hx⟩:=WWI.out z ((List.dropLast_sublist _).subset q)
          unfold Wide;omega)
        have OC:Hid (w11.ownsRow w2.heap.size 3 1 (.slice xc1 cl cc1) cl (nums c)):=Lib.hid (by have:=O11.out;rw[hcl] at this;rw[hcE];simpa [nums] using this)
        rw[hcl]
        clear OB2
        have OB2:=OB3
        clear hcE hcl
        by_cases hb0:b= []
        ·have v0:=BN.out hb0
         simp only[Value.slice.injEq] at v0
         obtain⟨rfl,rfl,rfl⟩:=v0
         have FE2:Hid ((nx.take (j+1)).foldl (fun b k=>bestK b (candR ls n i k)) b0=c):=Lib.hid (by rw[FE.out];unfold bestK;rw[if_pos ⟨CN.out,.inl hb0⟩])
         clear hb0
         go_wp2_with fail
         go_roundw
         case rel=>exact⟨j+1,c,by have:=HJL.out;omega,by go_num,FE2,by rw[CLN.out];exact OC.out,fun e=>absurd e CN.out,CB.out,CW.out,GC.out⟩
         case measure=>simp[intOf];have:=HJL.out;omega
        ·have hb1:0<b.length:=List.length_pos_iff.2 hb0
         have OB3:=OB2.out
         rw[←BL.out] at OB3
         obtain⟨gb,cb,eb,_,_,_⟩:=owns_cell OB3 hb1
         rw[BL.out] at eb
         simp only[Value.slice.injEq,true_and] at eb
         obtain⟨rfl,rfl⟩:=eb
         have HBN:=Lib.hid hb0
         clear hb0 hb1 OB3
         by_cases hcl:cl<bl
         ·have cb1:decide ((cl:Int)<(bl:Int))=true:=decide_eq_true (by omega)
          have cb2:decide (cl<bl)=true:=decide_eq_true hcl
          have FE2:Hid ((nx.take (j+1)).foldl (fun b k=>bestK b (candR ls n i k)) b0=c):=Lib.hid (by rw[FE.out];unfold bestK;rw[if_pos ⟨CN.out,.inr (by rw[CLN.out,BL.out];exact hcl)⟩])
          clear hcl
          go_wp2_with fail
          go_roundw
          case rel=>exact⟨j+1,c,by have:=HJL.out;omega,by go_num,FE2,by rw[CLN.out];exact OC.out,fun e=>absurd e CN.out,CB.out,CW.out,GC.out⟩
          case measure=>simp[intOf];have:=HJL.out;omega
         ·have cb1:decide ((cl:Int)<(bl:Int))=false:=decide_eq_false (by omega)
          have cb2:decide (cl<bl)=false:=decide_eq_false hcl
          have FE2:Hid ((nx.take (j+1)).foldl (fun b k=>bestK b (candR ls n i k)) b0=b):=Lib.hid (by rw[FE.out];unfold bestK;rw[if_neg];rintro⟨_,q|q⟩;exact HBN.out q;rw[CLN.out,BL.out] at q;exact hcl q)
          clear hcl
          go_wp2_with fail
          go_roundw
          case rel=>exact⟨j+1,b,by have:=HJL.out;omega,by go_num,FE2,by rw[BL.out];exact OB2.out,fun e=>absurd e HBN.out,BB.out,BW.out,GC.out⟩
          case measure=>simp[intOf];have:=HJL.out;omega
     ·have jn:¬(j:Int)<(xl:Int):=by omega
      have FF:Hid ((List.range (i+1)).foldl (fun b (i:Nat)=>(nextR ls (i:Int)).foldl (fun b k=>bestK b (candR ls n i k)) b) []=b):=Lib.hid (by rw[FI.out,←HB.out,List.take_of_length_le (by rw[hxl.out];omega)])
      clear hjl
      go_wp2_with fail
      go_roundw
      case rel=>exact⟨i+1,b,by have:=HIN.out;omega,by go_num,FF,by have:=OBB.out;rw[BL.out] at this ⊢;exact this,by rw[←BL.out] at BN ⊢;exact BN.out,BB.out,BW.out,G7.out.trans HG7.out⟩
      case measure=>simp[intOf];have:=HIN.out;omega
   ·obtain rfl:n=i:=by omega
    have in2:¬(n:Int)<(n:Int):=by omega
    have RE:Hid (R= .ok b0):=Lib.hid (by rw[RE2.out,←HB0.out];rfl)
    have OBF:=Lib.hid (owns_low OB.out G3.out.size)
    rw[hbl.out] at OBF ⊢
    clear hin hi
    go_wp2_with fail
    rw[HP0.out,RE.out]
    exact⟨_,rfl,by rw[hbl.out];exact OBF.out,BW.out,G3.out.trans HG.out⟩
theorem circleE_any(ts:Tr)(a:Option Addr)(cap:Nat)(pn cn:St)(w:World)(h:SlOf 3 RNod w a ts)(hf:ts.length≤1000000):
  Calls Tryz.prog 20 #[.agg #[.slice a ts.length cap],.string (bs pn),.string (bs cn)] w (GivesI w (circleE ts pn cn)):=by
 by_cases h0:chkT ts=0
 ·have q:=circleT_any ts a cap pn cn w h h0
  rw[circleT_R] at q
  have e:circleE ts pn cn=circleTR ts pn cn:=by unfold circleE circleTR allE;rw[if_neg (by rw[h0];simp)];cases allT ts pn cn ts.length<;>rfl
  rw[e];exact q
 ·have e:circleE ts pn cn= .error (chkT ts):=by unfold circleE allE;rw[if_pos h0]
  rw[e];exact circle_err ts a cap pn cn _ w h hf rfl h0
theorem orderE_any(ts:Tr)(a:Option Addr)(cap:Nat)(pn cn:St)(w:World)(h:SlOf 3 RNod w a ts)(hf:ts.length≤1000000):
  Calls Tryz.prog 21 #[.agg #[.slice a ts.length cap],.string (bs pn),.string (bs cn)] w (GivesI w (orderE ts pn cn)):=by
 by_cases h0:chkT ts=0
 ·have q:=order_any ts a cap pn cn w h h0
  rw[orderT_R] at q
  have e:orderE ts pn cn=orderR ts pn cn:=by unfold orderE orderR allE;rw[if_neg (by rw[h0];simp)];cases allT ts pn cn ts.length<;>rfl
  rw[e];exact q
 ·have e:orderE ts pn cn= .error (chkT ts):=by unfold orderE allE;rw[if_pos h0]
  rw[e];exact order_err ts a cap pn cn _ w h hf rfl h0
theorem consPE_any(ts:Tr)(a:Option Addr)(cap:Nat)(k:Int)(pn cn:St)(w:World)(h:SlOf 3 RNod w a ts)(hf:ts.length≤1000000):
  Calls Tryz.prog 16 #[.agg #[.slice a ts.length cap],.int .i64 k,.string (bs pn),.string (bs cn)] w (GivesI w (consE ts k pn cn)):=by
 have H:=Lib.hid h
 have BG:=Lib.hid (fun W (hW:SlOf 3 RNod W a ts)=>beginE_any ts a cap k W hW hf)
 obtain⟨P0,hP0⟩:∃P:Ending→World→Prop,P=GivesI w (consE ts k pn cn):=⟨_,rfl⟩
 have HP0:=Lib.hid hP0
 by_cases hb:begE ts k=0
 ·have hc:chkT ts=0:=by
   by_cases h0:chkT ts=0
   ·exact h0
   ·unfold begE at hb;rw[if_pos h0] at hb;exact absurd hb h0
  have hk:0≤k∧k<ts.length:=by
   unfold begE at hb
   rw[if_neg (by rw[hc];simp)] at hb
   by_cases q:k<0∨(ts.length:Int)≤k
   ·rw[if_pos q] at hb;omega
   ·omega
  obtain⟨p,rfl⟩:=Int.eq_ofNat_of_zero_le hk.1
  have hp:p<ts.length:=by omega
  have e:consE ts (p:Int) pn cn=match allT ts pn cn ts.length with| .error e=> .error e| .ok ls=> .ok (consR ls (p:Int)):=by
   unfold consE
   rw[if_neg (by rw[hc];simp),if_neg (by omega)]
   cases allT ts pn cn ts.length<;>rfl
  cases hz:allT ts pn cn ts.length with
  |ok ls=>
   rw[hz] at e
   rw[e]
   refine(consumers_ok ts a cap p pn cn ls w h hc hp hz (allT_few hc hz)).mono ?_
   rintro e w' ⟨v,rfl,ho,hg⟩
   rw[cons_same hz] at ho
   exact⟨v,rfl,ho,consR_wide hc hz _,hg⟩
  |error er=>
   rw[hz] at e
   have E0:=graphT_err (show graphT ts pn cn= .error er by unfold graphT;rw[hz])
   have eb:(er==0)=false:=by rw[beq_eq_false_iff_ne];omega
   have BZ:=fun W hW=>BG.out W hW
   rw[hb] at BZ
   have BZ:=Lib.hid BZ
   have AZ:=Lib.hid (fun W (hW:SlOf 3 RNod W a ts)=>(by have q:=all_any ts a cap pn cn W hW hc;rw[hz] at q;exact q))
   rw[e] at HP0 hP0 ⊢
   rw[←hP0]
   clear hP0 h BG e hz hb hk hp hc E0
   go_enter Tryz.func16,Tryz.ntmps16
   go_wp2_with fail
   have RX:=Lib.hid (Row.new w #[.slice a ts.length cap] 31)
   obtain⟨W,hW⟩:∃W:World,Hid (W=w.alloc (.cells #[.slice a ts.length cap] 31)):=⟨_,Lib.hid rfl⟩
   have GW:Hid (Gr w W):=Lib.hid (by rw[hW.out];exact(Gr.refl _).alloc _)
   rw[←hW.out] at RX ⊢
   obtain⟨PB,hPB⟩:∃N:Nat,Hid (w.heap.size=N):=⟨_,Lib.hid rfl⟩
   rw[hPB.out] at RX ⊢
   clear hW
   refine(BZ.out W (H.out.gr RNod.mono GW.out)).mono ?_
   rintro e w1 ⟨rfl,hg1⟩
   have G1:=Lib.hid (GW.out.trans hg1)
   have RX1:=Lib.hid (RX.out.gr hg1)
   clear hg1 RX GW
   have x0:=RX1.out.cell 0 (by simp)
   simp only[List.getElem_cons_zero] at x0
   have hx:=has_of_cell x0
   go_wp2_with fail
   refine(AZ.out w1 (H.out.gr RNod.mono G1.out)).mono ?_
   rintro e w2 ⟨rfl,hg2⟩
   have G2:=Lib.hid (G1.out.trans hg2)
   clear hg2 x0 hx
   go_wp2_with fail
   rw[HP0.out]
   exact⟨rfl,G2.out⟩
 ·have e:consE ts k pn cn= .error (begE ts k):=by
   by_cases h0:chkT ts=0
   ·have h1:¬chkT ts≠0:=by rw[h0];simp
    by_cases q:k<0∨(ts.length:Int)≤k
    ·have e1:begE ts k=4:=by unfold begE;rw[if_neg h1,if_pos q]
     rw[e1];unfold consE;rw[if_neg h1,if_pos q]
    ·exact absurd (by unfold begE;rw[if_neg h1,if_neg q]) hb
   ·have e1:begE ts k=chkT ts:=by unfold begE;rw[if_pos h0]
    rw[e1];unfold consE;rw[if_pos h0]
  obtain⟨er,her⟩:∃er,begE ts k=er:=⟨_,rfl⟩
  have BZ:=fun W hW=>BG.out W hW
  rw[her] at BZ hb e
  have BZ:=Lib.hid BZ
  have eb:(er==0)=false:=by rw[beq_eq_false_iff_ne];exact hb
  rw[e] at HP0 hP0 ⊢
  rw[←hP0]
  clear hP0 h BG e hb her
  go_enter Tryz.func16,Tryz.ntmps16
  go_wp2_with fail
  obtain⟨W,hW⟩:∃W:World,Hid (W=w.alloc (.cells #[.slice a ts.length cap] 31)):=⟨_,Lib.hid rfl⟩
  have GW:Hid (Gr w W):=Lib.hid (by rw[hW.out];exact(Gr.refl _).alloc _)
  rw[←hW.out]
  clear hW
  refine(BZ.out W (H.out.gr RNod.mono GW.out)).mono ?_
  rintro e w1 ⟨rfl,hg1⟩
  have G1:=Lib.hid (GW.out.trans hg1)
  clear hg1 GW
  go_wp2_with fail
  rw[HP0.out]
  exact⟨rfl,G1.out⟩
theorem small_any(ts:Tr)(a:Option Addr)(cap:Nat)(w:World)(h:SlOf 3 RNod w a ts)(hf:Fit ts.length):
  Calls Tryz.prog 22 #[.agg #[.slice a ts.length cap]] w fun e w'=>∃b:Bool,e= .returned (.bool b)∧(b=true→ts.length≤400)∧Gr w w':=by
 have H:=Lib.hid h
 have F:=hf
 unfold Fit at F
 obtain⟨m,hm⟩:∃N:Nat,Hid (ts.length=N):=⟨_,Lib.hid rfl⟩
 obtain⟨P0,hP0⟩:∃P:Ending→World→Prop,P=fun e w'=>∃b:Bool,e= .returned (.bool b)∧(b=true→ts.length≤400)∧Gr w w':=⟨_,rfl⟩
 rw[←hP0]
 have HP0:=Lib.hid hP0
 rw[hm.out] at F ⊢
 clear h hf hP0
 go_enter Tryz.func22,Tryz.ntmps22
 go_wp2_with fail
 have RB:=Lib.hid (Row.new w #[.slice a m cap] 31)
 obtain⟨W1,hW1⟩:∃W:World,Hid (W=w.alloc (.cells #[.slice a m cap] 31)):=⟨_,Lib.hid rfl⟩
 rw[←hW1.out] at RB ⊢
 have G1:Hid (Gr w W1):=Lib.hid (by rw[hW1.out];exact(Gr.refl _).alloc _)
 obtain⟨PB,hPB⟩:∃N:Nat,Hid (w.heap.size=N):=⟨_,Lib.hid rfl⟩
 rw[hPB.out] at RB ⊢
 clear hW1 hPB
 go_loopw [3,4] (fun n i wr=>∃(k:Nat) (x:Int),k≤m∧i= .int .i64 (k:Int)∧n= .int .i64 x∧(m:Int)≤x∧x≤140737488355000∧Gr W1 wr) (fun _ i _=>m-(intOf i).toNat)
 case atStart=>exact⟨0,(m:Int),Nat.zero_le _,rfl,rfl,by omega,by omega,by first|exact Gr.refl _|exact(Gr.refl _).drewN _⟩
 case round=>
  obtain⟨k,x,hk,rfl,rfl,hx1,hx2,hg⟩:=hrel
  have HG:=Lib.hid hg
  have x0:=(RB.out.gr hg).cell 0 (by simp)
  simp only[List.getElem_cons_zero] at x0
  have hx:=has_of_cell x0
  clear hg
  have HX1:=Lib.hid hx1
  clear hx1
  by_cases hkm:k<m
  ·have kn:(k:Int)<(m:Int):=by omega
   have b1:decide (k<m)=true:=decide_eq_true hkm
   by_cases hx9:x<900
   ·have b2:decide (x<900)=true:=decide_eq_true hx9
    have hkt:k<ts.length:=by rw[hm.out];exact hkm
    obtain⟨b,o,pa,pc,rfl,c0,c1,c2,hps,hpf,hw,hnl⟩:=nods_at (H.out.gr RNod.mono (G1.out.trans HG.out)) k hkt
    obtain⟨pl,hpl⟩:∃N:Nat,ts[k].props.length=N:=⟨_,rfl⟩
    rw[hpl] at c2 hpf
    unfold Fit at hpf
    have hh:=has_of_cell c2
    have wr1:IntKind.i64.wrap (x+(pl:Int))=x+(pl:Int):=by rw[IntKind.wrap_i64];have:=HX1.out;omega
    have x00:0≤x:=by have:=HX1.out;omega
    have HKM:=Lib.hid hkm
    clear hpl c0 c1 hps hw hnl hkt hkm
    go_wp2_with fail
    go_roundw
    case rel=>exact⟨k+1,x+(pl:Int),by have:=HKM.out;omega,by go_num,by first|rfl|go_num,by have:=HX1.out;omega,by omega,HG.out⟩
    case measure=>simp[intOf];have:=HKM.out;omega
   ·have b2:decide (x<900)=false:=decide_eq_false hx9
    have b3:decide (x≤400)=false:=decide_eq_false (by omega)
    go_wp2_with fail
    rw[HP0.out]
    exact⟨false,rfl,fun h=>absurd h (by decide),G1.out.trans HG.out⟩
  ·have kn:¬(k:Int)<(m:Int):=by omega
   have b1:decide (k<m)=false:=decide_eq_false hkm
   go_wp2_with fail
   rw[HP0.out]
   exact⟨_,rfl,fun h=>by have:=of_decide_eq_true h;have:=HX1.out;have:=hm.out;omega,G1.out.trans HG.out⟩
def DjA(ms:List NM):Prop:=ms.Pairwise (fun m m'=>∀g g':Addr,m.a=some g→m'.a=some g'→g.block≠g'.block)
theorem DjA.snoc{ms:List NM}{m:NM}(h:DjA ms)(hm:∀m'∈ms,∀g g':Addr,m'.a=some g→m.a=some g'→g.block≠g'.block):DjA (ms++ [m]):=by
 unfold DjA at h ⊢
 rw[List.pairwise_append]
 exact⟨h,List.pairwise_singleton ..,fun a ha b hb=>by rw[List.mem_singleton.1 hb];exact hm a ha⟩
theorem DjA.ne{ms:List NM}(h:DjA ms){i j:Nat}(hi:i<ms.length)(hj:j<ms.length)(hij:i≠j):∀g g':Addr,ms[i].a=some g→ms[j].a=some g'→g.block≠g'.block:=by
 intro g g' h1 h2
 rcases Nat.lt_or_gt_of_ne hij with q|q
 ·exact(List.pairwise_iff_getElem.1 h) i j hi hj q g g' h1 h2
 ·exact fun e=>(List.pairwise_iff_getElem.1 h) j i hj hi q g' g h2 h1 e.symm
theorem enc_setG{v:Value}{o:Nat}{m':NM}(ho:o<3):∀(ms:List NM) (k:Nat) (h:k<ms.length),m'.enc=(ms[k]'h).enc.set o v→(ms.flatMap NM.enc).set (k*3+o) v=(ms.set k m').flatMap NM.enc:=by
 intro ms
 induction ms with
 |nil=>intro k h;simp at h
 |cons t ts ih=>
  intro k h he
  cases k with
  |zero=>
   simp only[List.getElem_cons_zero] at he
   rw[Nat.zero_mul,Nat.zero_add,List.flatMap_cons,List.set_append_left _ _ (by rw[NM.enc_len];exact ho),List.set_cons_zero,List.flatMap_cons,he]
  |succ k=>
   have:=ih k (by simpa using h) (by simpa using he)
   rw[show(k+1)*3+o=(NM.enc t).length+(k*3+o) by rw[NM.enc_len];omega]
   rw[List.flatMap_cons,List.set_append_right _ _ (by omega),List.set_cons_succ,List.flatMap_cons,←this]
   simp
theorem TrAt.upd{base:Nat}{w:World}{g n vc:Nat}{ms:List NM}(h:TrAt base w (.slice (some ⟨g,0,none⟩) n vc) ms){k o:Nat}(hk:k<ms.length)(ho:o<3){v:Value}{m':NM}(he:m'.enc=(ms[k]'hk).enc.set o v)(hm:NdAt base w m'):
  TrAt base (w.setCell ⟨g,k*3+o,none⟩ v) (.slice (some ⟨g,0,none⟩) n vc) (ms.set k m'):=by
 obtain rfl:=h.sl.1
 have g1:=grownBy_set w g (k*3+o) v
 have h1:=ownP_put h.own (j:=k*3+o) (by omega) v
 rw[enc_setG ho ms k hk he] at h1
 refine⟨by rw[List.length_set];exact h1,fun m hmm=>?_⟩
 rcases List.mem_or_eq_of_mem_set hmm with q|q
 ·exact(h.nds m q).kept g1 (owns_ne (h.nds m q).own h.own (by decide))
 ·subst q
  exact hm.kept g1 (owns_ne hm.own h.own (by decide))
structure BI(b len P4 P5 g m c:Nat)(w0 w:World)(ms:List NM):Prop where
 tr:TrAt w0.heap.size w (.slice (some ⟨g,0,none⟩) m c) ms
 ml:ms.length=m
 m1:m≤100
 r5:Row w P5 31 [.slice (some ⟨g,0,none⟩) m c]
 r4:Row w P4 31 [.slice none 0 0]
 mv:Mv b len w0 w
 tp:Tp w b len
 bb:b<w0.heap.size∧w0.heap.size≤P4∧w0.heap.size≤P5∧P4≠P5
 dj:DjA ms
 sm:∀x∈ms,x.n.props.length≤900
def BD(b len P4 P5:Nat)(w0 w:World):Prop:=∃v ms,TrAt w0.heap.size w v ms∧ms.length≤101∧Row w P5 31 [v]∧Row w P4 31 [.slice none 0 0]∧Mv b len w0 w∧w0.heap.size≤P4∧P4≠P5
theorem BI.move{b len P4 P5 g m c:Nat}{w0 w w':World}{ms:List NM}(h:BI b len P4 P5 g m c w0 w ms)(hm:Mv b len w w'):BI b len P4 P5 g m c w0 w' ms:=by
 obtain⟨h1,h2,h3,h4⟩:=h.bb
 exact⟨h.tr.mv h1 hm,h.ml,h.m1,hm.row h.r5 (by omega),hm.row h.r4 (by omega),h.mv.trans h1 hm,hm.tp h.tp,h.bb,h.dj,h.sm⟩
theorem BI.gr{b len P4 P5 g m c:Nat}{w0 w w':World}{ms:List NM}(h:BI b len P4 P5 g m c w0 w ms)(hg:Gr w w'):BI b len P4 P5 g m c w0 w' ms:=h.move (Mv.of_gr h.tp hg)
theorem BI.gne{b len P4 P5 g m c:Nat}{w0 w:World}{ms:List NM}(h:BI b len P4 P5 g m c w0 w ms):g≠P5∧g≠P4∧w0.heap.size≤g∧g≠b:=by
 have hb:=owns_block h.tr.own g rfl
 have h1:=h.bb
 refine⟨?_,?_,hb.1,by omega⟩
 ·rcases h.tr.ne_ty h.r5.ty (by decide) with q|q
  ·cases q
  ·exact fun e=>q (by rw[e];rfl)
 ·rcases h.tr.ne_ty h.r4.ty (by decide) with q|q
  ·cases q
  ·exact fun e=>q (by rw[e];rfl)
theorem BI.at{b len P4 P5 g m c:Nat}{w0 w:World}{ms:List NM}(h:BI b len P4 P5 g m c w0 w ms){k:Nat}(hk:k<ms.length):
  w.cell? ⟨g,k*3,none⟩=some (.int .i64 ms[k].n.parent)∧w.cell? ⟨g,k*3+1,none⟩=some (.string (bs ms[k].n.name))∧w.cell? ⟨g,k*3+2,none⟩=some (.slice ms[k].a ms[k].n.props.length ms[k].c)∧(∀o,w.frozen? ⟨g,o,none⟩=false)∧NdAt w0.heap.size w ms[k]:=by
 obtain⟨g',cap,e1,_,_,hc⟩:=owns_cell h.tr.own (by omega)
 cases e1
 have hf:=fun j (hj:j<3)=>flat_at NM.enc 3 (fun _=>rfl) ms k j hk hj
 have h2:∀j,j<3→w.cell? ⟨g,k*3+j,none⟩=(NM.enc ms[k])[j]?:=fun j hj=>by rw[hc (k*3+j) (by omega)];exact hf j hj
 refine⟨by have:=h2 0 (by omega);exact this,by have:=h2 1 (by omega);exact this,by have:=h2 2 (by omega);exact this,fun o=>?_,h.tr.nds _ (List.getElem_mem hk)⟩
 have q:=h.tr.own
 rw[h.ml] at q
 exact q.frozenAt _
theorem BI.fin{b len P4 P5 g m c:Nat}{w0 w:World}{ms:List NM}(h:BI b len P4 P5 g m c w0 w ms){k o:Nat}(hk:k<ms.length)(ho:o<3){v:Value}{m':NM}(he:m'.enc=(ms[k]'hk).enc.set o v)(hm:NdAt w0.heap.size w m'):BD b len P4 P5 w0 (w.setCell ⟨g,k*3+o,none⟩ v):=by
 obtain⟨n1,n2,n3,n4⟩:=h.gne
 have hb:=h.bb
 exact⟨_,_,h.tr.upd hk ho he hm,by rw[List.length_set,h.ml];have:=h.m1;omega,h.r5.oth n1,h.r4.oth n2,h.mv.setc n3,hb.2.1,hb.2.2.2⟩
structure BP(b len P4 P5 g m c:Nat)(w0 w:World)(ms:List NM)(k:Nat)(x:Option Addr)(cc:Nat)(ps:List Prp):Prop where
 own:w.ownsRow w0.heap.size 55 3 (.slice (some ⟨g,0,none⟩) m c) ms.length (ms.flatMap NM.enc)
 nds:∀j (hj:j<ms.length),j≠k→NdAt w0.heap.size w ms[j]
 row:w.ownsRow w0.heap.size 89 2 (.slice x ps.length cc) ps.length (ps.flatMap encP)
 sm:ps.length≤1000∧∀p∈ps,p.name.length≤1000∧p.val.length≤100000
 hk:k<ms.length
 sk:SmN (ms[k]'hk).n
 ml:ms.length=m
 m1:m≤100
 r5:Row w P5 31 [.slice (some ⟨g,0,none⟩) m c]
 r4:Row w P4 31 [.slice none 0 0]
 mv:Mv b len w0 w
 bb:b<w0.heap.size∧w0.heap.size≤P4∧w0.heap.size≤P5∧P4≠P5
theorem BI.app{b len P4 P5 g m c:Nat}{w0 w w':World}{ms:List NM}(h:BI b len P4 P5 g m c w0 w ms){k:Nat}(hk:k<ms.length){x:Option Addr}{cc:Nat}{ps:List Prp}
  (hg:w.grownBy w' (Value.slice (ms[k]'hk).a (ms[k]'hk).n.props.length (ms[k]'hk).c).ownBlock) (ho:w'.ownsRow w0.heap.size 89 2 (.slice x ps.length cc) ps.length (ps.flatMap encP)) (hs:ps.length≤1000∧∀p∈ps,p.name.length≤1000∧p.val.length≤100000):
  BP b len P4 P5 g m c w0 w' ms k x cc ps:=by
 have hn:=h.tr.nds _ (List.getElem_mem hk)
 have hne:∀{T:Nat} {B:Nat},Ty w B T→89≠T→some B≠(Value.slice (ms[k]'hk).a (ms[k]'hk).n.props.length (ms[k]'hk).c).ownBlock:=fun{T B} ht e=>by
  rcases hn.ne_row ht e with q|q
  ·rw[q];simp
  ·exact fun e=>q e.symm
 refine⟨h.tr.own.kept hg ?_,fun j hj hjk=>(h.tr.nds _ (List.getElem_mem hj)).kept hg ?_,ho,hs,hk,hn.sm,h.ml,h.m1,h.r5.kept hg (hne h.r5.ty (by decide)),h.r4.kept hg (hne h.r4.ty (by decide)),h.mv.grown hg (fun q e=>(owns_block hn.own q e).1),h.bb⟩
 ·exact owns_ne h.tr.own hn.own (by decide)
 ·cases hz:(Value.slice (ms[j]'hj).a (ms[j]'hj).n.props.length (ms[j]'hj).c).ownBlock with
  |none=>exact .inl rfl
  |some q=>
   refine .inr fun e=>?_
   have e1:∃a:Addr,(ms[j]'hj).a=some a∧a.block=q:=by
    simp only[Value.ownBlock] at hz
    cases ha:(ms[j]'hj).a with
    |none=>rw[ha] at hz;cases hz
    |some a=>rw[ha] at hz;exact⟨a,rfl,by injection hz⟩
   have e2:∃a:Addr,(ms[k]'hk).a=some a∧a.block=q:=by
    have hz:=e.symm
    simp only[Value.ownBlock] at hz
    cases ha:(ms[k]'hk).a with
    |none=>rw[ha] at hz;cases hz
    |some a=>rw[ha] at hz;exact⟨a,rfl,by injection hz⟩
   obtain⟨a1,h1,q1⟩:=e1
   obtain⟨a2,h2,q2⟩:=e2
   exact h.dj.ne hj hk hjk a1 a2 h1 h2 (by rw[q1,q2])
theorem BP.fin{b len P4 P5 g m c:Nat}{w0 w:World}{ms:List NM}{k:Nat}{x:Option Addr}{cc:Nat}{ps:List Prp}(h:BP b len P4 P5 g m c w0 w ms k x cc ps):BD b len P4 P5 w0 (w.setCell ⟨g,k*3+2,none⟩ (.slice x ps.length cc)):=by
 have hb:=owns_block h.own g rfl
 have h1:=h.bb
 have hml:=h.ml
 have n1:g≠P5:=fun e=>(owns_ty h.own (g:=g) rfl).apart h.r5.ty (by decide) e
 have n2:g≠P4:=fun e=>(owns_ty h.own (g:=g) rfl).apart h.r4.ty (by decide) e
 have g1:=grownBy_set w g (k*3+2) (.slice x ps.length cc)
 have hown:=h.own
 rw[hml] at hown
 have h2:=ownP_put hown (j:=k*3+2) (by have:=h.hk;omega) (.slice x ps.length cc)
 rw[enc_setG (m':=⟨{(ms[k]'h.hk).n with props:=ps},x,cc⟩) (by decide) ms k h.hk rfl] at h2
 refine⟨.slice (some ⟨g,0,none⟩) m c,ms.set k ⟨{(ms[k]'h.hk).n with props:=ps},x,cc⟩,⟨by rw[List.length_set,hml];exact h2,fun m' hm'=>?_⟩,by rw[List.length_set,hml];have:=h.m1;omega,h.r5.oth n1,h.r4.oth n2,h.mv.setc hb.1,h1.2.1,h1.2.2.2⟩
 obtain⟨j,hj,rfl⟩:=List.getElem_of_mem hm'
 rw[List.length_set] at hj
 by_cases e:j=k
 ·subst e
  rw[List.getElem_set_self]
  have sk:=h.sk
  exact⟨h.row.kept g1 (owns_ne h.row h.own (by decide)),⟨sk.plo,sk.phi,sk.nam,h.sm.1,h.sm.2⟩⟩
 ·rw[List.getElem_set_ne (fun q=>e q.symm)]
  exact(h.nds j hj e).kept g1 (owns_ne (h.nds j hj e).own h.own (by decide))
theorem BP.gcell{b len P4 P5 g m c:Nat}{w0 w:World}{ms:List NM}{k:Nat}{x:Option Addr}{cc:Nat}{ps:List Prp}(h:BP b len P4 P5 g m c w0 w ms k x cc ps)(hk:k<ms.length):w.cell? ⟨g,k*3+2,none⟩=some (.slice (ms[k]'hk).a (ms[k]'hk).n.props.length (ms[k]'hk).c):=by
 obtain⟨g',cap,e1,_,_,hc⟩:=owns_cell h.own (by have:=h.hk;omega)
 cases e1
 rw[hc (k*3+2) (by have:=h.hk;omega)]
 exact flat_at NM.enc 3 (fun _=>rfl) ms k 2 h.hk (by decide)
theorem BP.gfree{b len P4 P5 g m c:Nat}{w0 w:World}{ms:List NM}{k:Nat}{x:Option Addr}{cc:Nat}{ps:List Prp}(h:BP b len P4 P5 g m c w0 w ms k x cc ps):w.frozen? ⟨g,k*3+2,none⟩=false:=by
 have q:=h.own
 rw[h.ml] at q
 exact q.frozenAt _
def GivesBT(base b len:Nat)(w:World)(e:Ending)(w':World):Prop:=∃v ms,e= .returned (.agg #[v])∧TrAt base w' v ms∧ms.length≤101∧Mv b len w w'
theorem rsame_any(xs ys:List LT)(a b:Option Addr)(ca cb bx by2:Nat)(w:World)(hx:w.ownsRow bx 40 5 (.slice a xs.length ca) xs.length (encLks xs))(hy:w.ownsRow by2 40 5 (.slice b ys.length cb) ys.length (encLks ys))(hxr:LRows w bx xs)(hyr:LRows w by2 ys)(he:lks xs=lks ys)(hf:xs.length≤1000000):
  Calls Tryz.prog 15 #[.slice a xs.length ca,.slice b ys.length cb] w (Grows w (.bool true)):=by
 have HX:=Lib.hid hx
 have HY:=Lib.hid hy
 have RX:=Lib.hid hxr
 have RY:=Lib.hid hyr
 have HE:=Lib.hid he
 have EL:ys.length=xs.length:=by have:=congrArg List.length he;simp only[lks,List.length_map] at this;exact this.symm
 obtain⟨n,hn⟩:∃N:Nat,Hid (xs.length=N):=⟨_,Lib.hid rfl⟩
 have YN:Hid (ys.length=n):=Lib.hid (by rw[EL];exact hn.out)
 rw[EL,hn.out]
 rw[hn.out] at hf
 clear hx hy hxr hyr he EL
 obtain⟨P0,hP0⟩:∃P:Ending→World→Prop,P=Grows w (.bool true):=⟨_,rfl⟩
 rw[←hP0]
 have HP0:=Lib.hid hP0
 clear hP0
 go_enter Tryz.func15,Tryz.ntmps15
 go_wp2_with fail
 go_loopw [15] (fun i wr=>∃k:Nat,k≤n∧i= .int .i64 (k:Int)∧Gr w wr) (fun i _=>n-(intOf i).toNat)
 case atStart=>exact⟨0,Nat.zero_le _,rfl,by first|exact Gr.refl _|exact(Gr.refl _).drewN _⟩
 case round=>
  obtain⟨k,hk,rfl,hg⟩:=hrel
  have HG:=Lib.hid hg
  clear hg
  by_cases hlt:k<n
  ·have hkx:k<xs.length:=by rw[hn.out];exact hlt
   have hky:k<ys.length:=by rw[YN.out];exact hlt
   obtain⟨ga,ea,_,p0,p1,p2,p3,p4⟩:=lk_at (Gr.owns HX.out HG.out) hkx
   obtain⟨gb,eb,_,q0,q1,q2,q3,q4⟩:=lk_at (Gr.owns HY.out HG.out) hky
   subst ea
   subst eb
   obtain⟨x,hx⟩:∃t,xs[k]=t:=⟨_,rfl⟩
   obtain⟨y,hy⟩:∃t,ys[k]=t:=⟨_,rfl⟩
   have EQ:Hid (y.l=x.l):=Lib.hid (by
    have h1:=lks_get hkx
    have h2:=lks_get hky
    rw[hx] at h1
    rw[hy] at h2
    rw[←h1,←h2]
    congr 1
    exact HE.out.symm)
   have XR:=Lib.hid (RX.out.gr HG.out _ (List.getElem_mem hkx))
   have YR:=Lib.hid (RY.out.gr HG.out _ (List.getElem_mem hky))
   rw[hx] at p0 p1 p2 p3 p4 XR
   rw[hy] at q0 q1 q2 q3 q4 YR
   rw[EQ.out] at q0 q1 q2 q3 q4 YR
   have hp:=has_of_cell p0
   have hq:=has_of_cell q0
   have kn:(k:Int)<(n:Int):=by omega
   have HLT:=Lib.hid hlt
   clear hx hy hkx hky hlt
   have IX:=Lib.hid (fun W (hg:Gr wr W)=>(by
    obtain⟨_,_,ex,_,sx⟩:=ints_at XR.1 XR.2.1
    obtain⟨_,_,ey,_,sy⟩:=ints_at YR.1 YR.2.1
    cases ex
    cases ey
    have q:=ints_any x.l.args x.l.args x.a y.a x.c y.c W (sx.giI hg) (sy.giI hg) (by unfold Fit;have:=XR.2.2;omega) (by unfold Fit;have:=XR.2.2;omega)
    rw[decide_eq_true rfl] at q
    exact q:Calls Tryz.prog 28 #[.slice x.a x.l.args.length x.c,.slice y.a x.l.args.length y.c] W (Grows W (.bool true))))
   have XL:x.l.args.length≤8:=XR.2.2
   clear XR YR EQ
   go_upto_region 6 with(fail)
   go_region_with (fail)
   all_goals
    go_wp2_with (go_at_call 28;refine(IX.out _ (by repeat(first|with_reducible exact Gr.refl _|with_reducible refine Gr.drew ?_|with_reducible refine Gr.alloc _ ?_))).mono ?_;rintro e w9 ⟨rfl,O9,d9,rfl⟩)
    go_roundw
    case rel=>exact⟨k+1,by have:=HLT.out;omega,by go_num,HG.out.trans (by repeat(first|with_reducible exact Gr.refl _|with_reducible refine Gr.xt _ _ ?_|with_reducible refine Gr.drew ?_|with_reducible refine Gr.drewN _ ?_|with_reducible refine Gr.alloc _ ?_))⟩
    case measure=>simp[intOf];have:=HLT.out;omega
  ·have kn:¬(k:Int)<(n:Int):=by omega
   clear hlt
   go_wp2_with fail
   rw[HP0.out]
   exact⟨rfl,HG.out⟩
end Go.Proofs.YtdjhnfopdlgliaaGreat
