/- Lemmas and contracts for the proof of LinkAnswers (several texts in one, printed by wip/tools/pack.py): TeH TeI. -/
import Derived.Test.YtdjhnfopdlgliaaGreatLa1pd
import Derived.Test.YtdjhnfopdlgliaaGreatLa1pa
set_option maxRecDepth 100000
set_option maxHeartbeats 16000000
set_option linter.unusedVariables false
set_option linter.unusedSimpArgs false
namespace Go.Proofs.YtdjhnfopdlgliaaGreat
open Go.RowKit Go.Maps
open Go.ChangeMaps (setBlock)
open Classical
theorem Row.block{w:World}{B T M:Nat}{vs:List Value}(h:Row w B T vs)(hne:M≠B)(o:Obj):Row (setBlock w M o) B T vs:=by
 unfold Row at*
 simp only[setBlock]
 rw[Array.getElem?_setIfInBounds_ne hne];exact h
theorem Gr.block{w w':World}(h:Gr w w'){M:Nat}(hm:w.heap.size≤M)(o:Obj):Gr w (setBlock w' M o):=by
 refine Gr.of_below ?_
 obtain⟨h1,h2,h3,h4,h5⟩:=h.below
 refine⟨h1,h2,h3,by simpa [setBlock] using h4,fun k hk=>?_⟩
 simp only[setBlock]
 rw[Array.getElem?_setIfInBounds_ne (by omega)];exact h5 k hk
theorem KS.gr{w w':World}{B:Nat}{ks:List (St×Int)}(h:KS w B ks)(hg:Gr w w'):KS w' B ks:=by
 obtain⟨es,clk,hb,h⟩:=h
 obtain⟨O,d,rfl⟩:=hg
 exact⟨es,clk,by rw[block_xt w O d B (Array.getElem?_eq_some_iff.1 hb).1];exact hb,h⟩
theorem KS.new(w:World):KS (w.alloc (.map #[] 0)) w.heap.size []:=⟨#[],0,heap_alloc_new w _,rfl,fun e h=>by simp at h,fun k h=>by simp at h⟩
theorem wpList_mapUpdate_run{P:Program}(w:World){ops:Array Oper}{rest:List Oper}{o:Oper}{a:Act}{Q:Exit→Act→World→Prop}
  (hg:o.guard=none) (m x v:Operand) (t:TypeId) (hop:o.op=Op.mapUpdate t m x v) (mv key val:Value) (hm:a.eval m=mv) (hx:a.eval x=key) (hv:a.eval v=val)
  {w':World} (hrun:(Instr.mapUpdate t mv key val).run P w= .ok () w') (hK:wpList P ops Q rest (a.put o.dst undef) w'):wpList P ops Q (o::rest) a w:=by
 refine wpList_plain hg fun K' hK'=>?_
 unfold Oper.wp
 simp[execOp,hop,hm,hx,hv,hrun,Result.andThen]
 exact hK' _ _ hK
theorem big_false{ts:Tr}(h:∀j (hj:j<ts.length),bigN ts[j]=false):ts.any bigN=false:=by
 rw[List.any_eq_false]
 intro x hx
 obtain⟨j,hj,rfl⟩:=List.getElem_of_mem hx
 simp[h j hj]
theorem big_true{ts:Tr}{k:Nat}(h:k<ts.length)(q:bigN ts[k]=true):ts.any bigN=true:=List.any_eq_true.2 ⟨_,List.getElem_mem h,q⟩
theorem chkT_len{ts:Tr}(h:ts.length=0∨120<ts.length):chkT ts=3:=by unfold chkT;rw[if_pos h]
theorem chkT_big{ts:Tr}(h:¬(ts.length=0∨120<ts.length))(q:ts.any bigN=true):chkT ts=3:=by unfold chkT;rw[if_neg h,if_pos q]
theorem chkT_rest{ts:Tr}(h:¬(ts.length=0∨120<ts.length))(q:ts.any bigN=false):chkT ts=if namedT ts=false then 1 else if(walkN ts ts.length).isNone then 12 else if dupT ts then 5 else if(List.range ts.length).any (fun i=>decide (8<depN ts i (i:Int))) then 2 else 0:=by
 unfold chkT;rw[if_neg h,if_neg (by simp[q])]
theorem dup_iff{ts:Tr}:dupT ts=true↔∃i,∃h:i<ts.length,0<i∧((ts.take i).map keyN).contains (keyN ts[i])=true:=by
 unfold dupT
 rw[List.any_eq_true]
 constructor
 ·rintro⟨i,hi,h⟩
  rw[List.mem_range] at hi
  rw[List.getD_eq_getElem?_getD,List.getElem?_eq_getElem hi,Bool.and_eq_true] at h
  exact⟨i,hi,by simpa using h.1,h.2⟩
 ·rintro⟨i,hi,h0,h⟩
  refine⟨i,List.mem_range.2 hi,?_⟩
  rw[List.getD_eq_getElem?_getD,List.getElem?_eq_getElem hi,Bool.and_eq_true]
  exact⟨by simpa using h0,h⟩
theorem named_short{ts:Tr}(h:namedT ts=true){k:Nat}(hk:k<ts.length):ts[k].name.length≤1000:=by
 have:=named_iff.1 h k hk
 rw[nodNm_eq,Bool.and_eq_true] at this
 have:=this.1
 by_cases h0:k=0
 ·simp[hdrN,h0] at this
  subst h0
  simp[this.2]
 ·simp[hdrN,h0,nameOk] at this
  omega
theorem treeCheck_any(ts:Tr)(a:Option Addr)(cap:Nat)(w:World)(h:SlOf 3 RNod w a ts)(hf:Fit ts.length):
  Calls Tryz.prog 51 #[.agg #[.slice a ts.length cap]] w (Grows w (.int .i64 (chkT ts))):=by
 unfold Fit at hf
 have H:=Lib.hid h
 clear h
 by_cases hlen:ts.length=0∨120<ts.length
 ·have C:=Lib.hid (chkT_len hlen)
  by_cases h0:ts.length=0
  ·have hb:((ts.length:Int)==0)=true:=by simp[h0]
   clear h0 hlen
   go_enter Tryz.func51,Tryz.ntmps51
   go_wp2_with fail
   go_ret
   exact⟨ret_int C.out.symm,(Gr.refl _).alloc _⟩
  ·have hb:((ts.length:Int)==0)=false:=by rw[beq_eq_false_iff_ne];omega
   have hb2:decide ((120:Int)<(ts.length:Int))=true:=by simp;omega
   clear h0 hlen
   go_enter Tryz.func51,Tryz.ntmps51
   go_wp2_with fail
   go_ret
   exact⟨ret_int C.out.symm,(Gr.refl _).alloc _⟩
 ·have HL:=Lib.hid hlen
  have hb:((ts.length:Int)==0)=false:=by rw[beq_eq_false_iff_ne];omega
  have hb2:decide ((120:Int)<(ts.length:Int))=false:=by simp;omega
  have h120:ts.length≤120:=by omega
  clear hlen
  go_enter Tryz.func51,Tryz.ntmps51
  go_wp2_with fail
  have RB:=Lib.hid (Row.new w #[.slice a ts.length cap] 31)
  obtain⟨W1,hW1⟩:∃W:World,Hid (W=w.alloc (.cells #[.slice a ts.length cap] 31)):=⟨_,Lib.hid rfl⟩
  rw[←hW1.out] at RB ⊢
  have G1:Hid (Gr w W1):=Lib.hid (by rw[hW1.out];exact(Gr.refl _).alloc _)
  obtain⟨P0,hP0⟩:∃N:Nat,Hid (w.heap.size=N):=⟨_,Lib.hid rfl⟩
  rw[hP0.out] at RB ⊢
  clear hW1
  go_loopw [23] (fun i wr=>∃k:Nat,k≤ts.length∧i= .int .i64 k∧(∀j (hj:j<k) (hjl:j<ts.length),bigN ts[j]=false)∧Row wr P0 31 [.slice a ts.length cap]∧Gr w wr) (fun i _=>ts.length-(intOf i).toNat)
  case atStart=>exact⟨0,Nat.zero_le _,rfl,fun j h=>absurd h (by omega),RB.out,G1.out⟩
  case round=>
   obtain⟨k,hk,rfl,hal,hrb,hg⟩:=hrel
   have HA:=Lib.hid hal
   have HRB:=Lib.hid hrb
   have HG:=Lib.hid hg
   clear hal hrb hg RB G1
   by_cases hlt:k<ts.length
   ·obtain⟨b,o,pa,pc,rfl,c0,c1,c2,hps,hpf,hw,hnl⟩:=nods_at (H.out.gr RNod.mono HG.out) k hlt
    obtain⟨n,hn⟩:∃n,n=ts[k]:=⟨_,rfl⟩
    have HN:=Lib.hid hn
    rw[←hn] at c0 c1 c2 hps hpf hw hnl
    clear hn
    have hh:=has_of_cell c0
    have HPS:=Lib.hid hps
    unfold Fit at hpf
    clear hps
    by_cases hq:24<n.props.length
    ·have hqb:decide ((24:Int)<(n.props.length:Int))=true:=by simp;omega
     have B:Hid (chkT ts=3):=Lib.hid (chkT_big HL.out (big_true hlt (by rw[←HN.out];simp[bigN,hq])))
     clear hq
     go_wp2_with fail
     go_ret
     exact⟨ret_int B.out.symm,HG.out.alloc _⟩
    ·have hqb:decide ((24:Int)<(n.props.length:Int))=false:=by simp;omega
     have HQ:=Lib.hid hq
     clear hq
     have hcp:=conPrp_any n.props pa pc (wr.alloc (.cells #[.int .i64 n.parent,.string (bs n.name),.slice pa n.props.length pc] 55)) (HPS.out.gr RPrp.mono ((Gr.refl _).alloc _)) (by unfold Fit;omega)
     have HCP:=Lib.hid hcp
     clear hcp
     by_cases hv:n.props.any (fun p=>decide (256<p.val.length))=true
     ·have B:Hid (chkT ts=3):=Lib.hid (chkT_big HL.out (big_true hlt (by rw[←HN.out];simp only[bigN,hv,Bool.or_true])))
      rw[hv] at HCP
      clear hv
      go_wp2_with (go_at_call 100;refine HCP.out.mono ?_;rintro e w' ⟨rfl,O,d,rfl⟩)
      go_ret
      exact⟨ret_int B.out.symm,(HG.out.alloc _).xt _ _⟩
     ·rw[Bool.not_eq_true] at hv
      have B:Hid (bigN ts[k]=false):=Lib.hid (by rw[←HN.out];simp only[bigN,hv,Bool.or_false];simpa using HQ.out)
      rw[hv] at HCP
      clear hv
      go_wp2_with (go_at_call 100;refine HCP.out.mono ?_;rintro e w' ⟨rfl,O,d,rfl⟩)
      go_roundw
      case rel=>
       refine⟨k+1,by omega,by go_num,fun j hj hjl=>?_,(HRB.out.alloc _).xt _ _,(HG.out.alloc _).xt _ _⟩
       by_cases e:j=k
       ·subst e;exact B.out
       ·exact HA.out j (by omega) hjl
      case measure=>simp[intOf];omega
   ·have NB:Hid (ts.any bigN=false):=Lib.hid (big_false fun j hj=>HA.out j (by omega) hj)
    have b0:wr.cell? ⟨P0,0,none⟩=some (.slice a ts.length cap):=HRB.out.cell 0 (by simp)
    clear HA hk
    have CR:=Lib.hid (chkT_rest HL.out NB.out)
    go_wp2_with fail
    refine(named_any ts a cap wr (H.out.gr RNod.mono HG.out) (by omega)).mono ?_
    rintro e w1 ⟨rfl,hg1⟩
    have HG1:=Lib.hid (HG.out.trans hg1)
    have HRB1:=Lib.hid (HRB.out.gr hg1)
    have b1:w1.cell? ⟨P0,0,none⟩=some (.slice a ts.length cap):=HRB1.out.cell 0 (by simp)
    clear hg1 b0 HG HRB
    by_cases hnm:namedT ts=true
    ·have HNM:=Lib.hid hnm
     rw[hnm]
     clear hnm
     go_wp2_with fail
     refine(walked_any ts a cap w1 (H.out.gr RNod.mono HG1.out) (by omega) (named_par HNM.out) (named_root HNM.out)).mono ?_
     rintro e w2 ⟨rfl,hg2⟩
     have HG2:=Lib.hid (HG1.out.trans hg2)
     have HRB2:=Lib.hid (HRB1.out.gr hg2)
     have b2:w2.cell? ⟨P0,0,none⟩=some (.slice a ts.length cap):=HRB2.out.cell 0 (by simp)
     clear hg2 b1 HG1 HRB1
     by_cases hwk:(walkN ts ts.length).isSome=true
     ·have HWK:=Lib.hid hwk
      rw[hwk]
      clear hwk
      have hmm:= @run_makeMap Tryz.prog
      have hh2:=has_of_cell b2
      go_wp2_with fail
      have KM:=Lib.hid (KS.new w2)
      obtain⟨W3,hW3⟩:∃W:World,Hid (W=w2.alloc (.map #[] 0)):=⟨_,Lib.hid rfl⟩
      have G23:Hid (Gr w2 W3):=Lib.hid (by rw[hW3.out];exact(Gr.refl _).alloc _)
      have HG3:=Lib.hid (HG2.out.trans G23.out)
      have HRB3:=Lib.hid (HRB2.out.gr G23.out)
      have mb:=Lib.hid HG2.out.size
      have pm:=Lib.hid (show w2.heap.size≠P0 by unfold Has at hh2;omega)
      rw[←hW3.out] at KM ⊢
      obtain⟨MB,hMB⟩:∃N:Nat,Hid (w2.heap.size=N):=⟨_,Lib.hid rfl⟩
      rw[hMB.out] at KM mb pm ⊢
      clear hmm hh2 b2 HG2 HRB2 G23 hW3 hMB
      go_loopw [47] (fun i wr=>∃k:Nat,k≤ts.length∧i= .int .i64 k∧KS wr MB ((ts.take k).map keyN)∧(∀j (hj:j<k) (hjl:j<ts.length),0<j→((ts.take j).map keyN).contains (keyN ts[j])=false)∧Row wr P0 31 [.slice a ts.length cap]∧Gr w wr) (fun i _=>ts.length-(intOf i).toNat)
      case atStart=>exact⟨0,Nat.zero_le _,rfl,KM.out,fun j h=>absurd h (by omega),HRB3.out,HG3.out⟩
      case round=>
       clear KM HRB3 HG3
       obtain⟨k,hk,rfl,hks,hal,hrb,hg⟩:=hrel
       have HK:=Lib.hid hks
       have HA:=Lib.hid hal
       have HRB:=Lib.hid hrb
       have HG:=Lib.hid hg
       clear hks hal hrb hg
       by_cases hlt:k<ts.length
       ·obtain⟨b,o,pa,pc,rfl,c0,c1,c2,hps,hpf,hw,hnl⟩:=nods_at (H.out.gr RNod.mono HG.out) k hlt
        have hsh:=named_short HNM.out hlt
        obtain⟨n,hn⟩:∃n,n=ts[k]:=⟨_,rfl⟩
        have HN:=Lib.hid hn
        rw[←hn] at c0 c1 c2 hps hpf hw hnl hsh
        clear hn hps
        have hh:=has_of_cell c0
        have HSH:=Lib.hid (show(keyN n).1.length≤1000∧Wide (keyN n).2 from⟨hsh,hw⟩)
        clear hsh hw
        have TK:Hid ((ts.take (k+1)).map keyN=(ts.take k).map keyN++ [keyN n]):=Lib.hid (by rw[List.take_succ_eq_append_getElem hlt,List.map_append,←HN.out];rfl)
        obtain⟨W5,hW5⟩:∃W:World,Hid (W=(wr.alloc (.cells #[.int .i64 n.parent,.string (bs n.name),.slice pa n.props.length pc] 55)).alloc (.cells #[.string (bs n.name),.int .i64 n.parent] 149)):=⟨_,Lib.hid rfl⟩
        have G5:Hid (Gr wr W5):=Lib.hid (by rw[hW5.out];exact((Gr.refl _).alloc _).alloc _)
        have K5:=Lib.hid (HK.out.gr G5.out)
        have RB5:=Lib.hid (HRB.out.gr G5.out)
        have HG5:=Lib.hid (HG.out.trans G5.out)
        have LK:=K5.out.look (keyN n) HSH.out
        by_cases hd:0<k∧((ts.take k).map keyN).contains (keyN n)=true
        ·have kg:decide (0<k)=true:=by simp;omega
         have B:Hid (chkT ts=5):=Lib.hid (by
          rw[CR.out,if_neg (by simp[HNM.out]),if_neg (by have:=HWK.out;simp[Option.isSome_iff_ne_none] at this;simp[this]),if_pos (dup_iff.2 ⟨k,hlt,hd.1,by rw[←HN.out];exact hd.2⟩)])
         rw[hd.2] at LK
         unfold keyV keyN at LK
         rw[hW5.out] at LK
         clear hd
         go_wp2_with fail
         go_ret
         rw[←hW5.out]
         exact⟨ret_int B.out.symm,HG5.out⟩
        ·have hnc:((ts.take k).map keyN).contains (keyN n)=false:=by
          by_cases k0:k=0
          ·subst k0;rfl
          ·rw[←Bool.not_eq_true];exact fun q=>hd ⟨by omega,q⟩
         obtain⟨o5,hput,hks5⟩:=K5.out.put (keyN n) HSH.out hnc
         have NC:=Lib.hid hnc
         have HP5:Hid ((Instr.mapUpdate 165 (.map (some MB)) (.agg #[.string (bs n.name),.int .i64 n.parent]) (.bool true)).run Tryz.prog ((wr.alloc (.cells #[.int .i64 n.parent,.string (bs n.name),.slice pa n.props.length pc] 55)).alloc (.cells #[.string (bs n.name),.int .i64 n.parent] 149))= .ok () (setBlock W5 MB o5)):=Lib.hid (by rw[←hW5.out];exact hput)
         have KS5:=Lib.hid hks5
         rw[hnc] at LK
         unfold keyV keyN at LK
         rw[hW5.out] at LK
         clear hd hput hks5 hnc
         by_cases k0:0<k
         case' pos=>have kg:decide (0<k)=true:=by simp;omega
         case' neg=>have kg:decide (0<k)=false:=by simp;omega
         all_goals
          clear k0
          go_wp2_with (at_mapUpdate;refine wpList_mapUpdate_run _ rfl _ _ _ _ rfl _ _ _ rfl rfl rfl HP5.out ?_)
          go_roundw
          case rel=>
           refine⟨k+1,by omega,by go_num,by rw[TK.out];exact KS5.out,fun j hj hjl h0=>?_,RB5.out.block pm.out _,HG5.out.block mb.out _⟩
           by_cases e:j=k
           ·subst e;rw[←HN.out];exact NC.out
           ·exact HA.out j (by omega) hjl h0
          case measure=>simp[intOf];omega
       ·have ND:Hid (dupT ts=false):=Lib.hid (by
         rw[←Bool.not_eq_true,dup_iff]
         rintro⟨i,hi,h0,q⟩
         rw[HA.out i (by omega) hi h0] at q
         cases q)
        have b0:wr.cell? ⟨P0,0,none⟩=some (.slice a ts.length cap):=HRB.out.cell 0 (by simp)
        have CR2:Hid (chkT ts=if(List.range ts.length).any (fun i=>decide (8<depN ts i (i:Int))) then 2 else 0):=Lib.hid (by
          rw[CR.out,if_neg (by simp[HNM.out]),if_neg (by have:=HWK.out;simp[Option.isSome_iff_ne_none] at this;simp[this]),if_neg (by simp[ND.out])])
        obtain⟨w6,hw6⟩:∃W,W=wr:=⟨_,rfl⟩
        rw[←hw6] at HRB HG
        clear HA hk HK CR ND
        go_wp2_with fail
        go_loopw [70] (fun i wr=>∃k:Nat,k≤ts.length∧i= .int .i64 k∧(∀j (hj:j<k) (hjl:j<ts.length),¬8<dep ts j)∧Row wr P0 31 [.slice a ts.length cap]∧Gr w wr) (fun i _=>ts.length-(intOf i).toNat)
        case atStart=>rw[←hw6];exact⟨0,Nat.zero_le _,rfl,fun j h=>absurd h (by omega),HRB.out,HG.out⟩
        case round=>
         clear b0 HRB HG hw6
         obtain⟨k,hk,rfl,hal,hrb,hg⟩:=hrel
         have HA:=Lib.hid hal
         have HRB:=Lib.hid hrb
         have HG:=Lib.hid hg
         have b0:wr.cell? ⟨P0,0,none⟩=some (.slice a ts.length cap):=hrb.cell 0 (by simp)
         clear hal hrb hg
         by_cases hlt:k<ts.length
         ·have DL:=dep_le (named_par HNM.out) k hlt
          by_cases hd:8<dep ts k
          ·have kd:decide ((8:Int)<((dep ts k:Nat):Int))=true:=by simp;omega
           have B:Hid (chkT ts=2):=Lib.hid (by rw[CR2.out,if_pos (List.any_eq_true.2 ⟨k,List.mem_range.2 hlt,by simpa [dep] using hd⟩)])
           clear hd
           go_wp2_with (go_at_call 104;refine(depth_any ts a cap k _ (H.out.gr RNod.mono HG.out) (by omega) (named_par HNM.out) hlt).mono ?_;rintro e w' ⟨rfl,O,d,rfl⟩)
           go_ret
           exact⟨ret_int B.out.symm,HG.out.xt _ _⟩
          ·have kd:decide ((8:Int)<((dep ts k:Nat):Int))=false:=by simp;omega
           have HD:=Lib.hid hd
           clear hd
           go_wp2_with (go_at_call 104;refine(depth_any ts a cap k _ (H.out.gr RNod.mono HG.out) (by omega) (named_par HNM.out) hlt).mono ?_;rintro e w' ⟨rfl,O,d,rfl⟩)
           go_roundw
           case rel=>
            refine⟨k+1,by omega,by go_num,fun j hj hjl=>?_,HRB.out.xt _ _,HG.out.xt _ _⟩
            by_cases e:j=k
            ·subst e;exact HD.out
            ·exact HA.out j (by omega) hjl
           case measure=>simp[intOf];omega
         ·have B:Hid (chkT ts=0):=Lib.hid (by
           rw[CR2.out,if_neg]
           rw[Bool.not_eq_true,List.any_eq_false]
           intro i hi
           have:=HA.out i (by have:=List.mem_range.1 hi;omega) (List.mem_range.1 hi)
           simpa [dep] using this)
          go_wp2_with fail
          go_ret
          exact⟨ret_int B.out.symm,HG.out⟩
     ·rw[Bool.not_eq_true] at hwk
      have B:Hid (chkT ts=12):=Lib.hid (by rw[CR.out,if_neg (by simp[HNM.out]),if_pos (by simpa using hwk)])
      rw[hwk]
      clear hwk
      go_wp2_with fail
      go_ret
      exact⟨ret_int B.out.symm,HG2.out⟩
    ·rw[Bool.not_eq_true] at hnm
     have B:Hid (chkT ts=1):=Lib.hid (by rw[CR.out,if_pos hnm])
     rw[hnm]
     clear hnm
     go_wp2_with fail
     go_ret
     exact⟨ret_int B.out.symm,HG1.out⟩
end Go.Proofs.YtdjhnfopdlgliaaGreat
namespace Go.Proofs.YtdjhnfopdlgliaaGreat
open Go.RowKit
open Classical
theorem lt_irr:∀a:St,Op.bytesLess a a=false
 | []=>rfl
 |a::x=>by simp[Op.bytesLess,lt_irr x]
theorem lt_trans:∀{a b c:St},Op.bytesLess a b=true→Op.bytesLess b c=true→Op.bytesLess a c=true
 | [],[],_,h,_=>by simp[Op.bytesLess] at h
 |_::_,[],_,h,_=>by simp[Op.bytesLess] at h
 |_,_::_,[],_,h=>by simp[Op.bytesLess] at h
 | [],_::_,_::_,_,_=>rfl
 |a::x,b::y,c::z,h,k=>by
  simp only[Op.bytesLess,Bool.or_eq_true,decide_eq_true_eq,Bool.and_eq_true,beq_iff_eq] at h k ⊢
  rcases h with h|⟨rfl,h⟩
  ·rcases k with k|⟨rfl,k⟩
   ·exact .inl (UInt8.lt_trans h k)
   ·exact .inl h
  ·rcases k with k|⟨rfl,k⟩
   ·exact .inl k
   ·exact .inr ⟨rfl,lt_trans h k⟩
theorem lt_tot:∀(a b:St),Op.bytesLess a b=true∨a=b∨Op.bytesLess b a=true
 | [],[]=> .inr (.inl rfl)
 | [],_::_=> .inl rfl
 |_::_,[]=> .inr (.inr rfl)
 |a::x,b::y=>by
  simp only[Op.bytesLess,Bool.or_eq_true,decide_eq_true_eq,Bool.and_eq_true,beq_iff_eq,List.cons.injEq]
  rcases Nat.lt_trichotomy a.toNat b.toNat with h|h|h
  ·exact .inl (.inl (UInt8.lt_iff_toNat_lt.2 h))
  ·have e:a=b:=UInt8.toNat_inj.1 h
   subst e
   rcases lt_tot x y with q|q|q
   ·exact .inl (.inr ⟨rfl,q⟩)
   ·exact .inr (.inl ⟨rfl,q⟩)
   ·exact .inr (.inr (.inr ⟨rfl,q⟩))
  ·exact .inr (.inr (.inl (UInt8.lt_iff_toNat_lt.2 h)))
theorem lt_ne{a b:St}(h:Op.bytesLess a b=true):a≠b:=by rintro rfl;rw[lt_irr] at h;cases h
theorem lt_not{a b:St}(h:Op.bytesLess a b=true):Op.bytesLess b a=false:=by
 rw[←Bool.not_eq_true];intro k;have:=lt_trans h k;rw[lt_irr] at this;cases this
def cmpS(a b:St):Int:=if Op.bytesLess a b=true then -1 else if a=b then 0 else 1
theorem isNaNS_any(a:St)(w:World):Calls Tryz.prog 171 #[.string (bs a)] w fun e w'=>e= .returned (.bool false)∧w=w':=by
 go_enter Tryz.func171,Tryz.ntmps171
 go_wp2_with fail
 go_ret
 exact⟨ret_bool (by simp),rfl⟩
theorem cmpS_any(a b:St)(w:World):Calls Tryz.prog 151 #[.string (bs a),.string (bs b)] w fun e w'=>e= .returned (.int .i64 (cmpS a b))∧w=w':=by
 rcases lt_tot a b with h|h|h
 ·have h2:cmpS a b= -1:=by simp[cmpS,h]
  have H2:=Lib.hid h2
  clear h2
  go_enter Tryz.func151,Tryz.ntmps151
  go_wp2_with (go_at_call 171;refine(isNaNS_any _ _).mono ?_;rintro e w' ⟨rfl,rfl⟩)
  go_ret
  exact⟨ret_int H2.out.symm,rfl⟩
 ·subst h
  have h1:=lt_irr a
  have H2:=Lib.hid (show cmpS a a=0 by simp[cmpS,h1])
  go_enter Tryz.func151,Tryz.ntmps151
  go_wp2_with (go_at_call 171;refine(isNaNS_any _ _).mono ?_;rintro e w' ⟨rfl,rfl⟩)
  go_ret
  exact⟨ret_int H2.out.symm,rfl⟩
 ·have h1:=lt_not h
  have h3:(a==b)=false:=by rw[beq_eq_false_iff_ne];exact fun e=>lt_ne h e.symm
  have H2:=Lib.hid (show cmpS a b=1 by rw[cmpS,if_neg (by simp[h1]),if_neg (fun e=>lt_ne h e.symm)])
  clear h
  go_enter Tryz.func151,Tryz.ntmps151
  go_wp2_with (go_at_call 171;refine(isNaNS_any _ _).mono ?_;rintro e w' ⟨rfl,rfl⟩)
  go_ret
  exact⟨ret_int H2.out.symm,rfl⟩
theorem prop1_any(n v s:St)(w:World):
  Calls Tryz.prog 150 #[.agg #[.string (bs n),.string (bs v)],.string (bs s)] w (Grows w (.int .i64 (cmpS n s))):=by
 go_enter Tryz.func150,Tryz.ntmps150
 go_wp2_with (go_at_call 151;refine(cmpS_any _ _ _).mono ?_;rintro e w' ⟨rfl,rfl⟩)
 go_ret
 exact⟨rfl,(Gr.refl _).alloc _⟩
theorem asc_lt{ps:List Prp}(h:ascP ps=true):∀{j k:Nat} (hjk:j<k) (hk:k<ps.length),Op.bytesLess ps[j].name ps[k].name=true:=by
 intro j k hjk
 induction hjk with
 |refl=>intro hk;exact asc_iff.1 h j hk
 | @step m hm ih=>intro hk;exact lt_trans (ih (by omega)) (asc_iff.1 h m hk)
structure Lower(ps:List Prp)(s:St)(i:Nat):Prop where
 le:i≤ps.length
 low:∀j (h:j<ps.length),j<i→Op.bytesLess ps[j].name s=true
 high:∀j (h:j<ps.length),i≤j→Op.bytesLess ps[j].name s=false
theorem binProp_any(ps:List Prp)(a:Option Addr)(cap:Nat)(s:St)(w:World)(h:SlOf 2 RPrp w a ps)(hf:ps.length≤1000000)(ha:ascP ps=true):
  Calls Tryz.prog 149 #[.slice a ps.length cap,.string (bs s),.func (.func 150) #[] #[]] w fun e w'=>
   ∃i:Nat,e= .returned (.tuple #[.int .i64 i,.bool (decide (∃h:i<ps.length,ps[i].name=s))])∧Lower ps s i∧Gr w w':=by
 have H:=Lib.hid h
 have HA:=Lib.hid ha
 clear h ha
 go_enter Tryz.func149,Tryz.ntmps149
 go_wp2_with fail
 go_loopw [9,10] (fun x y wr=>∃i j:Nat,x= .int .i64 i∧y= .int .i64 j∧i≤j∧j≤ps.length∧(∀q (h:q<ps.length),q<i→Op.bytesLess ps[q].name s=true)∧(∀q (h:q<ps.length),j≤q→Op.bytesLess ps[q].name s=false)∧Gr w wr) (fun x y _=>(intOf y-intOf x).toNat)
 case atStart=>exact⟨0,ps.length,rfl,rfl,by omega,by omega,fun q h k=>by omega,fun q h k=>by omega,Gr.refl _⟩
 case round=>
  obtain⟨i,j,rfl,rfl,hij,hj,hlo,hhi,hg⟩:=hrel
  have HLO:=Lib.hid hlo
  have HHI:=Lib.hid hhi
  have HG:=Lib.hid hg
  clear hlo hhi hg
  by_cases hlt:i<j
  ·have hm1:i≤(i+j)/2∧(i+j)/2<j:=by omega
   have hml:(i+j)/2<ps.length:=by omega
   obtain⟨b,o,rfl,c0,c1,l0,l1⟩:=prps_at (H.out.gr RPrp.mono HG.out) ((i+j)/2) hml
   obtain⟨p,hp⟩:∃p,p=ps[(i+j)/2]:=⟨_,rfl⟩
   have HP:=Lib.hid hp
   rw[←hp] at c0 c1 l0 l1
   clear hp
   have hh:=has_of_cell c0
   by_cases hv:Op.bytesLess p.name s=true
   ·have hc:decide (cmpS p.name s<0)=true:=by rw[cmpS,if_pos hv];rfl
    have V:=Lib.hid hv
    clear hv
    go_wp2_with (go_at_call 150;refine(prop1_any _ _ _ _).mono ?_;rintro e w' ⟨rfl,O,d,rfl⟩)
    go_roundw
    case rel=>
     refine⟨(i+j)/2+1,j,by simp,rfl,by omega,hj,fun q hq hqi=>?_,HHI.out,HG.out.xt _ _⟩
     by_cases e:q=(i+j)/2
     ·subst e;rw[←HP.out];exact V.out
     ·exact lt_trans (asc_lt HA.out (show q<(i+j)/2 by omega) hml) (by rw[←HP.out];exact V.out)
    case measure=>simp[intOf];omega
   ·have hc:decide (cmpS p.name s<0)=false:=by rw[cmpS,if_neg hv];split<;>rfl
    rw[Bool.not_eq_true] at hv
    have V:=Lib.hid hv
    clear hv
    go_wp2_with (go_at_call 150;refine(prop1_any _ _ _ _).mono ?_;rintro e w' ⟨rfl,O,d,rfl⟩)
    go_roundw
    case rel=>
     refine⟨i,(i+j)/2,rfl,by simp,by omega,by omega,HLO.out,fun q hq hqi=>?_,HG.out.xt _ _⟩
     by_cases e:q=(i+j)/2
     ·subst e;rw[←HP.out];exact V.out
     ·rw[←Bool.not_eq_true]
      intro hx
      have:=lt_trans (asc_lt HA.out (show(i+j)/2<q by omega) hq) hx
      rw[←HP.out,V.out] at this
      cases this
    case measure=>simp[intOf];omega
  ·obtain rfl:i=j:=by omega
   have LW:Hid (Lower ps s i):=Lib.hid ⟨hj,HLO.out,HHI.out⟩
   clear hlt
   by_cases hil:i<ps.length
   ·obtain⟨b,o,rfl,c0,c1,l0,l1⟩:=prps_at (H.out.gr RPrp.mono HG.out) i hil
    obtain⟨p,hp⟩:∃p,p=ps[i]:=⟨_,rfl⟩
    have HP:=Lib.hid hp
    rw[←hp] at c0 c1 l0 l1
    clear hp
    have hh:=has_of_cell c0
    have D:Hid (decide (∃h:i<ps.length,ps[i].name=s)=(cmpS p.name s==0)):=Lib.hid (by
     have h2:=HHI.out i hil (Nat.le_refl _)
     rw[←HP.out] at h2
     rw[cmpS,if_neg (by simp[h2])]
     by_cases e:p.name=s
     ·rw[if_pos e,decide_eq_true (by exact⟨hil,by rw[←HP.out];exact e⟩)];rfl
     ·rw[if_neg e,decide_eq_false (by rintro⟨_,q⟩;exact e (by rw[HP.out];exact q))];rfl)
    have hd:decide (i<ps.length)=true:=by simp[hil]
    go_wp2_with (go_at_call 150;refine(prop1_any _ _ _ _).mono ?_;rintro e w' ⟨rfl,O,d,rfl⟩)
    refine bodyPost_ret (v:= .tuple #[.int .i64 i,.bool (cmpS p.name s==0)]) (by simp[results,Tryz.results149,go_sem]) rfl ?_
    exact⟨i,by rw[D.out],LW.out,HG.out.xt _ _⟩
   ·have D:Hid (decide (∃h:i<ps.length,ps[i].name=s)=false):=Lib.hid (decide_eq_false (by rintro⟨h,_⟩;exact hil h))
    have hd:decide (i<ps.length)=false:=by simp[hil]
    clear hil
    go_wp2_with fail
    refine bodyPost_ret (v:= .tuple #[.int .i64 i,.bool false]) (by simp[results,Tryz.results149,go_sem]) rfl ?_
    exact⟨i,by rw[D.out],LW.out,HG.out⟩
theorem Lower.find{ps:List Prp}{s:St}{i:Nat}(h:Lower ps s i)(ha:ascP ps=true):valP ps s=if h2:i<ps.length then(if ps[i].name=s then some ps[i].val else none) else none:=by
 unfold valP
 by_cases hi:i<ps.length
 ·rw[dif_pos hi]
  by_cases e:ps[i].name=s
  ·rw[if_pos e]
   have:ps.find? (fun p=>p.name==s)=some ps[i]:=List.find?_eq_some_iff_getElem.2 ⟨by simpa using e,i,hi,rfl,fun j hj=>by have:=lt_ne (h.low j (by omega) hj);simpa using this⟩
   rw[this];rfl
  ·rw[if_neg e]
   have:ps.find? (fun p=>p.name==s)=none:=by
    rw[List.find?_eq_none]
    intro x hx
    obtain⟨j,hj,rfl⟩:=List.getElem_of_mem hx
    have hs:Op.bytesLess s ps[i].name=true:=by
     rcases lt_tot s ps[i].name with q|q|q
     ·exact q
     ·exact absurd q.symm e
     ·rw[h.high i hi (Nat.le_refl _)] at q;cases q
    by_cases h1:j<i
    ·simpa using lt_ne (h.low j hj h1)
    ·by_cases h2:j=i
     ·subst h2;simpa using e
     ·have:=lt_ne (lt_trans hs (asc_lt ha (show i<j by omega) hj))
      simpa using fun q=>this q.symm
   rw[this];rfl
 ·rw[dif_neg hi]
  have:ps.find? (fun p=>p.name==s)=none:=by
   rw[List.find?_eq_none]
   intro x hx
   obtain⟨j,hj,rfl⟩:=List.getElem_of_mem hx
   simpa using lt_ne (h.low j hj (by have:=h.le;omega))
  rw[this];rfl
theorem treeProp_any(n:Nod)(a:Option Addr)(cap:Nat)(s:St)(w:World)(h:SlOf 2 RPrp w a n.props)(hf:n.props.length≤1000000)(ha:ascP n.props=true):
  Calls Tryz.prog 129 #[.agg #[.int .i64 n.parent,.string (bs n.name),.slice a n.props.length cap],.string (bs s)] w fun e w'=>
   ∃i:Nat,e= .returned (.tuple #[.int .i64 i,.bool (decide (∃h:i<n.props.length,n.props[i].name=s))])∧Lower n.props s i∧Gr w w':=by
 have H:=Lib.hid h
 clear h
 go_enter Tryz.func129,Tryz.ntmps129
 go_wp2_with fail
 refine(binProp_any n.props a cap s _ (H.out.gr RPrp.mono ((Gr.refl _).alloc _)) hf ha).mono ?_
 rintro e w' ⟨i,rfl,hl,O,d,rfl⟩
 have HL:=Lib.hid hl
 clear hl
 go_wp2_with fail
 refine bodyPost_ret (v:= .tuple #[.int .i64 i,.bool (decide (∃h:i<n.props.length,n.props[i].name=s))]) (by simp[results,Tryz.results129,go_sem]) rfl ?_
 exact⟨i,rfl,HL.out,((Gr.refl _).alloc _).xt _ _⟩
/-! What a tree without an error is. -/
structure GoodT(ts:Tr):Prop where
 len:0<ts.length∧ts.length≤120
 big:∀j (h:j<ts.length),ts[j].props.length≤24∧∀p∈ts[j].props,p.val.length≤256
 named:namedT ts=true
 walk:(walkN ts ts.length).isSome=true
 dup:dupT ts=false
 deep:∀j,j<ts.length→dep ts j≤8
theorem good_of{ts:Tr}(h:chkT ts=0):GoodT ts:=by
 by_cases h1:ts.length=0∨120<ts.length
 ·rw[chkT_len h1] at h;cases h
 ·by_cases h2:ts.any bigN=true
  ·rw[chkT_big h1 h2] at h;cases h
  ·rw[Bool.not_eq_true] at h2
   rw[chkT_rest h1 h2] at h
   by_cases h3:namedT ts=true
   ·rw[if_neg (by simp[h3])] at h
    by_cases h4:(walkN ts ts.length).isNone=true
    ·rw[if_pos h4] at h;cases h
    ·rw[if_neg h4] at h
     by_cases h5:dupT ts=true
     ·rw[if_pos h5] at h;cases h
     ·rw[if_neg h5] at h
      by_cases h6:(List.range ts.length).any (fun i=>decide (8<depN ts i (i:Int)))=true
      ·rw[if_pos h6] at h;cases h
      ·refine⟨by omega,fun j hj=>?_,h3,?_,by simpa using h5,fun j hj=>?_⟩
       ·have:=List.any_eq_false.1 h2 ts[j] (List.getElem_mem hj)
        simp only[bigN,Bool.or_eq_true,decide_eq_true_eq,List.any_eq_true,not_or,not_exists,not_and] at this
        exact⟨by omega,fun p hp=>by have:=this.2 p hp;omega⟩
       ·cases hz:walkN ts ts.length with
        |none=>rw[hz] at h4;exact absurd rfl h4
        |some x=>rfl
       ·rw[Bool.not_eq_true,List.any_eq_false] at h6
        have:=h6 j (List.mem_range.2 hj)
        simp only[decide_eq_true_eq,Nat.not_lt] at this
        exact this
   ·rw[if_pos (by simpa using h3)] at h;cases h
theorem walk_asc{ts:Tr}(h:(walkN ts ts.length).isSome=true){i:Nat}(hi:i<ts.length):ascP ts[i].props=true:=by
 cases hz:walkN ts i with
 |none=>rw[walkN_none (by omega) hz] at h;cases h
 |some last=>
  cases hq:ascP ts[i].props with
  |true=>rfl
  |false=>
   have:=walkN_asc hi hz hq
   rw[walkN_none (by omega) this] at h;cases h
theorem GoodT.asc{ts:Tr}(h:GoodT ts){i:Nat}(hi:i<ts.length):ascP ts[i].props=true:=walk_asc h.walk hi
theorem treeValue_any(ts:Tr)(a:Option Addr)(cap i:Nat)(s:St)(w:World)(h:SlOf 3 RNod w a ts)(hc:chkT ts=0)(hi:i<ts.length):
  Calls Tryz.prog 82 #[.agg #[.slice a ts.length cap],.int .i64 i,.string (bs s)] w
   (Grows w (.tuple #[.string (bs ((valP ts[i].props s).getD [])),.bool (valP ts[i].props s).isSome])):=by
 have H:=Lib.hid h
 have G:=Lib.hid (good_of hc)
 have h120:=(good_of hc).len.2
 clear h
 go_enter Tryz.func82,Tryz.ntmps82
 go_wp2_with fail
 have RB:=Lib.hid (Row.new w #[.slice a ts.length cap] 31)
 obtain⟨W1,hW1⟩:∃W:World,Hid (W=w.alloc (.cells #[.slice a ts.length cap] 31)):=⟨_,Lib.hid rfl⟩
 rw[←hW1.out] at RB ⊢
 have G1:Hid (Gr w W1):=Lib.hid (by rw[hW1.out];exact(Gr.refl _).alloc _)
 obtain⟨P0,hP0⟩:∃N:Nat,Hid (w.heap.size=N):=⟨_,Lib.hid rfl⟩
 rw[hP0.out] at RB ⊢
 clear hW1
 refine(treeCheck_any ts a cap W1 (H.out.gr RNod.mono G1.out) (by unfold Fit;omega)).mono ?_
 rintro e w1 ⟨rfl,hg1⟩
 rw[hc]
 have G2:=Lib.hid (G1.out.trans hg1)
 have b0:w1.cell? ⟨P0,0,none⟩=some (.slice a ts.length cap):=(RB.out.gr hg1).cell 0 (by simp)
 clear hg1 G1 RB hc
 obtain⟨b,o,pa,pc,rfl,c0,c1,c2,hps,hpf,hw,hnl⟩:=nods_at (H.out.gr RNod.mono G2.out) i hi
 have HPS:=Lib.hid hps
 have ha:=G.out.asc hi
 have hb:=(G.out.big i hi).1
 obtain⟨n,hn⟩:∃n,n=ts[i]:=⟨_,rfl⟩
 have HN:=Lib.hid hn
 rw[←hn] at c0 c1 c2 hw hnl HPS ha hb
 clear hn hps hpf
 have hh:=has_of_cell b0
 have hh2:=has_of_cell c0
 have k1:decide ((i:Int)<0)=false:=by simp
 have k2:decide ((ts.length:Int)≤(i:Int))=false:=by simp;omega
 have k3:decide (ts.length≤i)=false:=by simp;omega
 go_wp2_with fail
 refine(treeProp_any n pa pc s w1 HPS.out (by omega) ha).mono ?_
 rintro e w2 ⟨k,rfl,hl,hg2⟩
 have HL:=Lib.hid hl
 have G3:=Lib.hid (G2.out.trans hg2)
 have F:=Lib.hid (hl.find ha)
 obtain⟨O,d,rfl⟩:=hg2
 clear hl
 by_cases hk:k<n.props.length
 ·obtain⟨b2,o2,rfl,d0,d1,l0,l1⟩:=prps_at HPS.out k hk
  have hh3:=has_of_cell d0
  by_cases he:n.props[k].name=s
  ·have D:decide (∃h:k<n.props.length,n.props[k].name=s)=true:=decide_eq_true ⟨hk,he⟩
   have F2:Hid (valP n.props s=some n.props[k].val):=Lib.hid (by rw[F.out,dif_pos hk,if_pos he])
   clear he
   rw[D]
   go_wp2_with fail
   refine bodyPost_ret (v:= .tuple #[.string (bs n.props[k].val),.bool true]) (by simp[results,Tryz.results82,go_sem]) rfl ?_
   exact⟨by rw[←HN.out,F2.out];rfl,G3.out⟩
  ·have D:decide (∃h:k<n.props.length,n.props[k].name=s)=false:=decide_eq_false (by rintro⟨_,q⟩;exact he q)
   have F2:Hid (valP n.props s=none):=Lib.hid (by rw[F.out,dif_pos hk,if_neg he])
   clear he
   rw[D]
   go_wp2_with fail
   refine bodyPost_ret (v:= .tuple #[.string (bs []),.bool false]) (by simp[results,Tryz.results82,go_sem];rfl) rfl ?_
   exact⟨by rw[←HN.out,F2.out];rfl,G3.out⟩
 ·have D:decide (∃h:k<n.props.length,n.props[k].name=s)=false:=decide_eq_false (by rintro⟨q,_⟩;exact hk q)
  have F2:Hid (valP n.props s=none):=Lib.hid (by rw[F.out,dif_neg hk])
  rw[D]
  go_wp2_with fail
  refine bodyPost_ret (v:= .tuple #[.string (bs []),.bool false]) (by simp[results,Tryz.results82,go_sem];rfl) rfl ?_
  exact⟨by rw[←HN.out,F2.out];rfl,G3.out⟩
end Go.Proofs.YtdjhnfopdlgliaaGreat
