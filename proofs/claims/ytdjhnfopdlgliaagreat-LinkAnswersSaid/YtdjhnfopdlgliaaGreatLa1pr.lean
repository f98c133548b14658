/- Lemmas and contracts for the proof of LinkAnswers (several texts in one, printed by wip/tools/pack.py): VeF LsF LsG LsH LsI. -/
import Derived.Test.YtdjhnfopdlgliaaGreatLa1pq
set_option maxRecDepth 100000
set_option maxHeartbeats 16000000
set_option linter.unusedVariables false
set_option linter.unusedSimpArgs false
namespace Go.Proofs.YtdjhnfopdlgliaaGreat
open Go.RowKit
open Classical
theorem chk_lim{ts:Tr}(h:limB ts=true):chkT ts=3:=by
 unfold limB at h
 by_cases h1:ts.length=0∨120<ts.length
 ·exact chkT_len h1
 ·have e1:decide (ts.length=0)=false:=by rw[decide_eq_false_iff_not];omega
  have e2:decide (120<ts.length)=false:=by rw[decide_eq_false_iff_not];omega
  rw[e1,e2] at h
  exact chkT_big h1 h
theorem lim_facts{ts:Tr}(h:limB ts=false):0<ts.length∧ts.length≤120∧(∀n∈ts,n.props.length≤24)∧chkT ts=if namedT ts=false then 1 else if(walkN ts ts.length).isNone then 12 else if dupT ts then 5 else if(List.range ts.length).any (fun i=>decide (8<depN ts i (i:Int))) then 2 else 0:=by
 unfold limB at h
 rw[Bool.or_eq_false_iff,Bool.or_eq_false_iff,decide_eq_false_iff_not,decide_eq_false_iff_not] at h
 obtain⟨⟨h1,h2⟩,h3⟩:=h
 refine⟨by omega,by omega,fun n hn=>?_,chkT_rest (by omega) h3⟩
 have q:=List.any_eq_false.1 h3 n hn
 unfold bigN at q
 rw[Bool.not_eq_true,Bool.or_eq_false_iff,decide_eq_false_iff_not] at q
 omega
theorem dup_yes{ts:Tr}{k m:Nat}(hk:k<ts.length)(hm:m<k)(h1:(ts[m]'(by omega)).parent=ts[k].parent)(h2:(ts[m]'(by omega)).name=ts[k].name):dupT ts=true:=by
 rw[dup_iff]
 refine⟨k,hk,by omega,?_⟩
 rw[List.contains_iff_mem,List.mem_map]
 refine⟨ts[m]'(by omega),?_,by unfold keyN;rw[h1,h2]⟩
 rw[List.mem_take_iff_getElem]
 exact⟨m,by omega,rfl⟩
theorem dup_no{ts:Tr}(hn:namedT ts=true)(h:∀k (hk:k<ts.length) m (hm:m<k),1≤m→(ts[m]'(by omega)).parent=ts[k].parent→(ts[m]'(by omega)).name≠ts[k].name):dupT ts=false:=by
 rw[←Bool.not_eq_true,dup_iff]
 rintro⟨i,hi,h0,hc⟩
 rw[List.contains_iff_mem,List.mem_map] at hc
 obtain⟨n,hnm,e⟩:=hc
 rw[List.mem_take_iff_getElem] at hnm
 obtain⟨m,hm,rfl⟩:=hnm
 have e1:(ts[m]'(by omega)).name=ts[i].name:=congrArg Prod.fst e
 have e2:(ts[m]'(by omega)).parent=ts[i].parent:=congrArg Prod.snd e
 by_cases hm0:m=0
 ·subst hm0
  have q1:=named_rootN hn (by omega)
  rw[nd_get (by omega)] at q1
  have q2:=named_par hn i hi h0
  omega
 ·exact h i hi m (by omega) (by omega) e2 e1
theorem rCheck_any(ts:Tr)(a:Option Addr)(cap:Nat)(w:World)(h:SlOf 3 RNod w a ts)(hf:ts.length≤1000000):
  Calls Tryz.prog 49 #[.agg #[.slice a ts.length cap]] w (Grows w (.int .i64 (chkT ts))):=by
 have H:=Lib.hid h
 obtain⟨v,hv⟩:∃v,chkT ts=v:=⟨_,rfl⟩
 have HV:=Lib.hid hv
 rw[hv]
 clear h hv
 go_enter Tryz.func49,Tryz.ntmps49
 have RX:=Lib.hid (Row.new w #[.slice a ts.length cap] 31)
 go_wp2_with fail
 obtain⟨W,hW⟩:∃W:World,Hid (W=w.alloc (.cells #[.slice a ts.length cap] 31)):=⟨_,Lib.hid rfl⟩
 have GW:Hid (Gr w W):=Lib.hid (by rw[hW.out];exact(Gr.refl _).alloc _)
 rw[←hW.out] at RX ⊢
 obtain⟨PB,hPB⟩:∃N:Nat,Hid (w.heap.size=N):=⟨_,Lib.hid rfl⟩
 rw[hPB.out] at RX ⊢
 clear hW hPB
 refine(limits_any ts a cap W (H.out.gr RNod.mono GW.out) hf).mono ?_
 rintro e w1 ⟨rfl,hg1⟩
 have G1:=Lib.hid (GW.out.trans hg1)
 have RX1:=Lib.hid (RX.out.gr hg1)
 have x0:=RX1.out.cell 0 (by simp)
 have hxb:=has_of_cell x0
 clear hg1 RX GW
 cases hlb:limB ts with
 |true=>
  have V:Hid (v=3):=Lib.hid (by rw[←HV.out];exact chk_lim hlb)
  clear hlb
  go_wp2_with fail
  go_ret
  exact⟨by rw[V.out];rfl,G1.out⟩
 |false=>
  obtain⟨l1,l2,hpl,hck⟩:=lim_facts hlb
  rw[HV.out] at hck
  have HPL:=Lib.hid hpl
  have VE:=Lib.hid hck
  clear hlb hpl hck
  go_wp2_with fail
  clear x0 hxb
  refine(names_any ts a cap w1 (H.out.gr RNod.mono G1.out) l2 HPL.out).mono ?_
  rintro e w2 ⟨rfl,hg2⟩
  have G2:=Lib.hid (G1.out.trans hg2)
  have RX2:=Lib.hid (RX1.out.gr hg2)
  have x0:=RX2.out.cell 0 (by simp)
  have hxb:=has_of_cell x0
  clear hg2 RX1 G1
  cases hnm:namedT ts with
  |false=>
   have V:Hid (v=1):=Lib.hid (by rw[VE.out,if_pos hnm])
   clear hnm
   go_wp2_with fail
   go_ret
   exact⟨by rw[V.out];rfl,G2.out⟩
  |true=>
   have HN:=Lib.hid hnm
   have VE2:Hid (v=if(walkN ts ts.length).isNone then 12 else if dupT ts then 5 else if(List.range ts.length).any (fun i=>decide (8<depN ts i (i:Int))) then 2 else 0):=Lib.hid (by rw[VE.out,if_neg (by rw[hnm];decide)])
   clear hnm VE
   go_wp2_with fail
   clear x0 hxb
   refine(ordered_any ts a cap w2 (H.out.gr RNod.mono G2.out) l2 l1 HPL.out HN.out).mono ?_
   rintro e w3 ⟨rfl,hg3⟩
   have G3:=Lib.hid (G2.out.trans hg3)
   have RX3:=Lib.hid (RX2.out.gr hg3)
   have x0:=RX3.out.cell 0 (by simp)
   have hxb:=has_of_cell x0
   clear hg3 RX2 G2
   cases hwk:walkN ts ts.length with
   |none=>
    have V:Hid (v=12):=Lib.hid (by rw[VE2.out,hwk];rfl)
    rw[show(none:Option (List St)).isSome=false from rfl]
    clear hwk
    go_wp2_with fail
    go_ret
    exact⟨by rw[V.out];rfl,G3.out⟩
   |some wk=>
    have VE3:Hid (v=if dupT ts then 5 else if(List.range ts.length).any (fun i=>decide (8<depN ts i (i:Int))) then 2 else 0):=Lib.hid (by rw[VE2.out,hwk];rfl)
    rw[show(some wk:Option (List St)).isSome=true from rfl]
    clear hwk VE2
    go_wp2_with fail
    clear x0 hxb
    go_loopw [18] (fun i wr=>∃k:Nat,k≤ts.length∧i= .int .i64 k∧(∀j (hj:j<ts.length) m (hm:m<j),j<k→1≤m→(ts[m]'(by omega)).parent=ts[j].parent→(ts[m]'(by omega)).name≠ts[j].name)∧Gr w3 wr) (fun i _=>ts.length-(intOf i).toNat)
    case atStart=>exact⟨0,Nat.zero_le _,rfl,fun j _ m _ h=>by omega,Gr.refl _⟩
    case round=>
     obtain⟨k,hk,rfl,ha,hg⟩:=hrel
     have HG:=Lib.hid hg
     have HA:=Lib.hid ha
     have G4:=Lib.hid (G3.out.trans hg)
     have RX4:=Lib.hid (RX3.out.gr hg)
     clear hg ha
     by_cases hlt:k<ts.length
     ·obtain⟨b,o,pa,pc,rfl,c0,c1,c2,hps,hpf,hw,hnl⟩:=nods_at (H.out.gr RNod.mono G4.out) k hlt
      have YES:=Lib.hid (fun m (hm:m<k)=>dup_yes hlt hm)
      have NXT:=Lib.hid (fun(q:∀m (hm:m<k),1≤m→(ts[m]'(by omega)).parent=(ts[k]'hlt).parent→(ts[m]'(by omega)).name≠(ts[k]'hlt).name)=>(fun j (hj:j<ts.length) m (hm:m<j) (hjk:j<k+1) (h1:1≤m)=>(show(ts[m]'(by omega)).parent=(ts[j]'hj).parent→(ts[m]'(by omega)).name≠(ts[j]'hj).name by
       by_cases e:j=k
       ·subst e;exact q m hm h1
       ·exact HA.out j hj m hm (by omega) h1)))
      obtain⟨n,hn⟩:∃n,ts[k]'hlt=n:=⟨_,rfl⟩
      rw[hn] at c0 c1 c2 YES NXT
      have hh:=has_of_cell c0
      have HLT:=Lib.hid hlt
      have kn:(k:Int)<ts.length:=by omega
      have BX:=Lib.hid (Row.new wr #[.int .i64 n.parent,.string (bs n.name),.slice pa n.props.length pc] 55)
      clear hn hps hpf hw hnl
      go_wp2_with fail
      obtain⟨W6,hW6⟩:∃W:World,Hid (W=wr.alloc (.cells #[.int .i64 n.parent,.string (bs n.name),.slice pa n.props.length pc] 55)):=⟨_,Lib.hid rfl⟩
      have G6:Hid (Gr wr W6):=Lib.hid (by rw[hW6.out];exact(Gr.refl _).alloc _)
      rw[←hW6.out] at BX ⊢
      obtain⟨PX,hPX⟩:∃N:Nat,Hid (wr.heap.size=N):=⟨_,Lib.hid rfl⟩
      rw[hPX.out] at BX ⊢
      have G46:=Lib.hid (G4.out.trans G6.out)
      have G36:=Lib.hid (HG.out.trans G6.out)
      have RX6:=Lib.hid (RX4.out.gr G6.out)
      clear hW6 hPX c0 c1 c2 hh G6
      go_loopw [5] (fun i wq=>∃m:Nat,1≤m∧m≤ts.length+1∧i= .int .i64 m∧(∀j (hj:j<k),j<m→1≤j→(ts[j]'(by omega)).parent=n.parent→(ts[j]'(by omega)).name≠n.name)∧Gr W6 wq) (fun i _=>ts.length+1-(intOf i).toNat)
      case atStart=>exact⟨1,by omega,by omega,rfl,fun j _ h h1=>by omega,Gr.refl _⟩
      case round=>
       obtain⟨m,hm1,hm,rfl,hp,hg⟩:=hrel
       have HG7:=Lib.hid hg
       have HP7:=Lib.hid hp
       have x0:=(RX6.out.gr hg).cell 0 (by simp)
       have hxb:=has_of_cell x0
       have y0:=(BX.out.gr hg).cell 0 (by simp)
       have y1:=(BX.out.gr hg).cell 1 (by simp)
       have hyb:=has_of_cell y0
       clear hg hp
       by_cases hml:m<k
       ·have hmn:m<ts.length:=by omega
        obtain⟨b2,o2,pa2,pc2,e2,d0,d1,d2, -⟩:=nods_at (H.out.gr RNod.mono (G46.out.trans HG7.out)) m hmn
        cases e2
        have YM:=Lib.hid (YES.out m hml)
        have NXP:=Lib.hid (fun(q:(ts[m]'hmn).parent=n.parent→(ts[m]'hmn).name≠n.name)=>(fun j (hj:j<k) (hjm:j<m+1) (h1:1≤j)=>(show(ts[j]'(by omega)).parent=n.parent→(ts[j]'(by omega)).name≠n.name by
         by_cases e:j=m
         ·subst e;exact q
         ·exact HP7.out j hj (by omega) h1)))
        obtain⟨nm,hnm⟩:∃n,ts[m]'hmn=n:=⟨_,rfl⟩
        rw[hnm] at d0 d1 d2 YM NXP
        have hd:=has_of_cell d0
        have mm:(m:Int)<k:=by omega
        have mn:(m:Int)<ts.length:=by omega
        have HML:=Lib.hid hml
        clear hnm d2
        by_cases hp:nm.parent=n.parent
        ·have b1:(nm.parent==n.parent)=true:=by rw[beq_iff_eq];exact hp
         by_cases hq:nm.name=n.name
         ·have b2':(nm.name==n.name)=true:=by rw[beq_iff_eq];exact hq
          have V:Hid (v=5):=Lib.hid (by rw[VE3.out,YM.out hp hq];rfl)
          clear hp hq
          go_wp2_with fail
          go_quiet (fail)
          go_wp2_with fail
          go_ret
          exact⟨by rw[V.out];rfl,G46.out.trans (HG7.out.drewN _)⟩
         ·have b2':(nm.name==n.name)=false:=by rw[beq_eq_false_iff_ne];exact hq
          have NX2:=Lib.hid (NXP.out (fun _=>hq))
          clear hp hq
          go_wp2_with fail
          go_quiet (fail)
          go_wp2_with fail
          exact⟨⟨m+1,by omega,by omega,by go_num,NX2.out,HG7.out.drewN _⟩,by simp[intOf];omega⟩
        ·have b1:(nm.parent==n.parent)=false:=by rw[beq_eq_false_iff_ne];exact hp
         have NX2:=Lib.hid (NXP.out (fun e=>absurd e hp))
         clear hp
         go_wp2_with fail
         go_quiet (fail)
         go_wp2_with fail
         exact⟨⟨m+1,by omega,by omega,by go_num,NX2.out,HG7.out.drewN _⟩,by simp[intOf];omega⟩
       ·have mm:¬(m:Int)<k:=by omega
        have AL:=Lib.hid (NXT.out (fun j hj h1=>HP7.out j hj (by omega) h1))
        go_wp2_with fail
        go_roundw
        case rel=>exact⟨k+1,by omega,by go_num,AL.out,G36.out.trans HG7.out⟩
        case measure=>simp[intOf];omega
     ·have ND:Hid (dupT ts=false):=Lib.hid (dup_no HN.out (fun j hj m hm h1=>HA.out j hj m hm (by omega) h1))
      have VE4:Hid (v=if(List.range ts.length).any (fun i=>decide (8<depN ts i (i:Int))) then 2 else 0):=Lib.hid (by rw[VE3.out,ND.out];rfl)
      have kn:¬(k:Int)<ts.length:=by omega
      have x0:=RX4.out.cell 0 (by simp)
      have hxb:=has_of_cell x0
      clear VE3 ND HA hlt hk
      go_wp2_with fail
      clear x0 hxb kn
      obtain⟨w5,rfl⟩:∃wo,wo=wr:=⟨_,rfl⟩
      go_loopw [52] (fun i wr=>∃k:Nat,k≤ts.length∧i= .int .i64 k∧(∀j,j<k→dep ts j≤8)∧Gr w5 wr) (fun i _=>ts.length-(intOf i).toNat)
      case atStart=>exact⟨0,Nat.zero_le _,rfl,fun j h=>by omega,Gr.refl _⟩
      case round=>
       obtain⟨k2,hk2,rfl,ha,hg⟩:=hrel
       have HG5:=Lib.hid hg
       have HA:=Lib.hid ha
       have x0:=(RX4.out.gr hg).cell 0 (by simp)
       have hxb:=has_of_cell x0
       clear hg ha
       by_cases hlt2:k2<ts.length
       ·have LV:=Lib.hid (level_any ts a cap k2 wr (H.out.gr RNod.mono (G4.out.trans HG5.out)) (named_par HN.out) l2 hlt2)
        have DL:=Lib.hid (fun(q:8<dep ts k2)=>(show v=2 by
         rw[VE4.out,if_pos]
         rw[List.any_eq_true]
         exact⟨k2,List.mem_range.2 hlt2,decide_eq_true (show 8<depN ts k2 (k2:Int) from q)⟩))
        have NXT:=Lib.hid (fun(q:dep ts k2≤8)=>(fun j (hj:j<k2+1)=>(show dep ts j≤8 by
         by_cases e:j=k2
         ·subst e;exact q
         ·exact HA.out j (by omega))))
        have d120:dep ts k2≤120:=by have:=dep_le (named_par HN.out) k2 hlt2;omega
        obtain⟨d,hd⟩:∃d,dep ts k2=d:=⟨_,rfl⟩
        rw[hd] at LV DL NXT d120
        have HLT:=Lib.hid hlt2
        have kk:(k2:Int)<ts.length:=by omega
        clear hd hlt2 hk2
        by_cases hd8:d≤8
        ·have d8:(d:Int)≤8:=by omega
         have NX2:=Lib.hid (NXT.out hd8)
         clear hd8
         go_wp2_with fail
         refine LV.out.mono ?_
         rintro e w6 ⟨rfl,hg6⟩
         have HG6:=Lib.hid (HG5.out.trans hg6)
         clear hg6 x0 hxb
         go_wp2_with fail
         go_roundw
         case rel=>exact⟨k2+1,by have:=HLT.out;omega,by go_num,NX2.out,HG6.out⟩
         case measure=>simp[intOf];have:=HLT.out;omega
        ·have d8:(8:Int)<d:=by omega
         have V:Hid (v=2):=Lib.hid (DL.out (by omega))
         clear hd8
         go_wp2_with fail
         refine LV.out.mono ?_
         rintro e w6 ⟨rfl,hg6⟩
         have HG6:=Lib.hid (HG5.out.trans hg6)
         clear hg6 x0 hxb
         go_wp2_with fail
         go_ret
         exact⟨by rw[V.out];rfl,G4.out.trans HG6.out⟩
       ·have V:Hid (v=0):=Lib.hid (by
         rw[VE4.out,if_neg]
         rw[Bool.not_eq_true,List.any_eq_false]
         intro j hj
         have hj:=List.mem_range.1 hj
         have this:depN ts j (j:Int)≤8:=HA.out j (by omega)
         simpa using this)
        have kk:¬(k2:Int)<ts.length:=by omega
        clear hlt2 hk2
        go_wp2_with fail
        go_ret
        exact⟨by rw[V.out];rfl,G4.out.trans HG5.out⟩
structure CT(ts:Tr):Prop where
 chk:chkT ts=0
theorem CT.few{ts:Tr}(h:CT ts):ts.length≤120:=(good_of h.chk).len.2
theorem CT.vals{ts:Tr}(h:CT ts):∀n∈ts,∀p∈n.props,p.val.length≤256:=fun n hn p hp=>by
 obtain⟨k,hk,rfl⟩:=List.getElem_of_mem hn
 exact((good_of h.chk).big k hk).2 p hp
theorem CT.fits{ts:Tr}(h:CT ts):∀n∈ts,n.props.length≤24:=fun n hn=>by
 obtain⟨k,hk,rfl⟩:=List.getElem_of_mem hn
 exact((good_of h.chk).big k hk).1
theorem ascP_nodup{ps:List Prp}(h:ascP ps=true):(ps.map Prp.name).Nodup:=by
 have adj:∀m (hm:m+1<ps.length),ltS ps[m].name ps[m+1].name=true:=fun m hm=>by
  unfold ascP at h
  have q:=List.all_eq_true.1 h m (List.mem_range.2 (by omega))
  rwa [List.getD_eq_getElem?_getD,List.getD_eq_getElem?_getD,List.getElem?_eq_getElem (by omega:m<ps.length),List.getElem?_eq_getElem hm,Option.getD_some,Option.getD_some] at q
 have pw:∀i d (hj:i+d+1<ps.length),ltS (ps[i]'(by omega)).name ps[i+d+1].name=true:=by
  intro i d
  induction d with
  |zero=>intro hj;exact adj i hj
  |succ d ih=>intro hj;exact vlt_trans (ih (by omega)) (adj (i+d+1) hj)
 rw[List.Nodup,List.pairwise_map,List.pairwise_iff_getElem]
 intro i j hi hj hij
 obtain⟨d,rfl⟩:∃d,j=i+d+1:=⟨j-i-1,by omega⟩
 exact vlt_ne (pw i d hj)
theorem ct_nodup{ts:Tr}(h:CT ts){k:Nat}(hk:k<ts.length):((nd ts k).props.map Prp.name).Nodup:=by
 have g:=good_of h.chk
 have q:=(walk_same g.len.1 (named_rootN g.named g.len.1) (named_par g.named).nd).1 g.walk
 exact ascP_nodup (q.2 k hk)
theorem rCheck_C(ts:Tr)(a:Option Addr)(cap:Nat)(w:World)(h:SlOf 3 RNod w a ts)(hv:CT ts):
  Calls Tryz.prog 49 #[.agg #[.slice a ts.length cap]] w (Grows w (.int .i64 0)):=by
 have q:=rCheck_any ts a cap w h (by have:=hv.few;omega)
 rwa [hv.chk] at q
theorem rPhandle_C(ts:Tr)(a:Option Addr)(cap:Nat)(p:Int)(w:World)(h:SlOf 3 RNod w a ts)(hv:CT ts):
  Calls Tryz.prog 98 #[.agg #[.slice a ts.length cap],.int .i64 p] w
   (Grows w (.tuple #[.int .i64 (((phan ts p).getD 0:Nat):Int),.bool (phan ts p).isSome])):=by
 have H:=Lib.hid h
 have HV:=Lib.hid hv
 have l2:=hv.few
 clear h hv
 obtain⟨P0,hP0⟩:∃P:Ending→World→Prop,P=Grows w (.tuple #[.int .i64 (((phan ts p).getD 0:Nat):Int),.bool (phan ts p).isSome]):=⟨_,rfl⟩
 rw[←hP0]
 have HP0:=Lib.hid hP0
 clear hP0
 go_enter Tryz.func98,Tryz.ntmps98
 go_wp2_with fail
 have RX:=Lib.hid (Row.new w #[.slice a ts.length cap] 31)
 obtain⟨W,hW⟩:∃W:World,Hid (W=w.alloc (.cells #[.slice a ts.length cap] 31)):=⟨_,Lib.hid rfl⟩
 have GW:Hid (Gr w W):=Lib.hid (by rw[hW.out];exact(Gr.refl _).alloc _)
 rw[←hW.out] at RX ⊢
 obtain⟨PB,hPB⟩:∃N:Nat,Hid (w.heap.size=N):=⟨_,Lib.hid rfl⟩
 rw[hPB.out] at RX ⊢
 clear hW hPB
 refine(rCheck_C ts a cap W (H.out.gr RNod.mono GW.out) HV.out).mono ?_
 rintro e w1 ⟨rfl,hg1⟩
 have G1:=Lib.hid (GW.out.trans hg1)
 have RX1:=Lib.hid (RX.out.gr hg1)
 clear hg1 RX GW
 have x0:=RX1.out.cell 0 (by simp)
 simp only[List.getElem_cons_zero] at x0
 have hx:=has_of_cell x0
 by_cases hp1:p<1
 ·have PN:Hid (phan ts p=none):=Lib.hid (by unfold phan;rw[if_neg (by omega)])
  have kb:decide (p<1)=true:=by simpa using hp1
  clear hp1
  go_wp2_with fail
  rw[HP0.out,PN.out]
  exact⟨rfl,G1.out⟩
 by_cases hp2:1048576<p
 ·have PN:Hid (phan ts p=none):=Lib.hid (by unfold phan;rw[if_neg (by omega)])
  have kb:decide (p<1)=false:=by simpa using hp1
  have kc:decide (1048576<p)=true:=by simpa using hp2
  clear hp1 hp2
  go_wp2_with fail
  rw[HP0.out,PN.out]
  exact⟨rfl,G1.out⟩
 obtain⟨n,rfl⟩:∃n:Nat,p=n:=⟨p.toNat,by omega⟩
 have N1:Hid (1≤n∧n≤1048576):=Lib.hid (by omega)
 have PH:Hid (phan ts (n:Int)=ts.findIdx? (fun x=>x.props.contains ⟨phS,cell4 n⟩)):=Lib.hid (by unfold phan;rw[if_pos (by omega),Int.toNat_natCast])
 have kb:decide ((n:Int)<1)=false:=by simpa using hp1
 have kb2:decide (n<1)=false:=by rw[decide_eq_false_iff_not];omega
 have kc:decide ((1048576:Int)<n)=false:=by simpa using hp2
 have kc2:decide (1048576<n)=false:=by rw[decide_eq_false_iff_not];omega
 clear hp1 hp2
 go_wp2_with fail
 clear x0 hx kb kb2 kc kc2
 go_loopw [24] (fun i wr=>∃k:Nat,k≤ts.length∧i= .int .i64 (k:Int)∧(∀j (hj:j<k) (hjl:j<ts.length),ts[j].props.contains ⟨phS,cell4 n⟩=false)∧Gr w wr) (fun i _=>ts.length-(intOf i).toNat)
 case atStart=>exact⟨0,Nat.zero_le _,rfl,fun j h=>by omega,G1.out⟩
 case round=>
  obtain⟨k,hk,rfl,ha,hg⟩:=hrel
  have HG:=Lib.hid hg
  have HA:=Lib.hid ha
  clear hg ha
  by_cases hlt:k<ts.length
  ·obtain⟨b,o,pa,pc,rfl,c0,c1,c2,hps,hpf,hw,hnl⟩:=nods_at (H.out.gr RNod.mono HG.out) k hlt
   have CV:Hid (ts[k].props.contains ⟨phS,cell4 n⟩=decide (valP ts[k].props phS=some (cell4 n))):=Lib.hid (con_val (by have q:=ct_nodup HV.out hlt;rwa [nd_get hlt] at q) _)
   have N12:Hid (ts[k].props.length≤24):=Lib.hid (HV.out.fits _ (List.getElem_mem hlt))
   obtain⟨nk,hnk⟩:∃t,ts[k]=t:=⟨_,rfl⟩
   have HNK:=Lib.hid hnk
   rw[hnk] at c0 c1 c2 hps CV N12
   have HPS:=Lib.hid hps
   have hh:=has_of_cell c0
   have HLT:=Lib.hid hlt
   have kn:(k:Int)<(ts.length:Int):=by omega
   clear hnk hps hpf hw hnl
   go_upto_region 6 with(fail)
   have BX:=Lib.hid (Row.new wr #[.int .i64 nk.parent,.string (bs nk.name),.slice pa nk.props.length pc] 55)
   obtain⟨W6,hW6⟩:∃W:World,Hid (W=wr.alloc (.cells #[.int .i64 nk.parent,.string (bs nk.name),.slice pa nk.props.length pc] 55)):=⟨_,Lib.hid rfl⟩
   have G6:Hid (Gr wr W6):=Lib.hid (by rw[hW6.out];exact(Gr.refl _).alloc _)
   rw[←hW6.out] at BX ⊢
   obtain⟨PX,hPX⟩:∃N:Nat,Hid (wr.heap.size=N):=⟨_,Lib.hid rfl⟩
   rw[hPX.out] at BX ⊢
   clear hW6 hPX c0 c1 c2 hh
   have y0:=BX.out.cell 0 (by simp)
   have y1:=BX.out.cell 1 (by simp)
   have y2:=BX.out.cell 2 (by simp)
   simp only[List.getElem_cons_zero,List.getElem_cons_succ] at y0 y1 y2
   have hy:=has_of_cell y0
   go_wp2_with fail
   refine(rOf_any nk pa pc [112,104,97,110,100,108,101] W6 (HPS.out.gr RPrp.mono G6.out) (by have:=N12.out;omega)).mono ?_
   intro e w7 hgv
   clear y0 y1 y2 hy
   cases hz:valP nk.props [112,104,97,110,100,108,101] with
   |none=>
    rw[hz] at hgv
    obtain⟨hg7,rfl⟩:=hgv
    have CF:Hid (nk.props.contains ⟨phS,cell4 n⟩=false):=Lib.hid (by rw[CV.out,show valP nk.props phS=none from hz];rfl)
    have G7:=Lib.hid (HG.out.trans (G6.out.trans hg7))
    clear hg7 hz
    go_wp2_with fail
    go_roundw
    case rel=>exact⟨k+1,by have:=HLT.out;omega,by go_num,fun j hj hjl=>(by
     by_cases e:j=k
     ·subst e;rw[HNK.out];exact CF.out
     ·exact HA.out j (by omega) hjl),G7.out⟩
    case measure=>simp[intOf];have:=HLT.out;omega
   |some v=>
    rw[hz] at hgv
    obtain⟨hg7,rfl⟩:=hgv
    have HZ:=Lib.hid hz
    have G7:=Lib.hid (HG.out.trans (G6.out.trans hg7))
    clear hg7 hz
    go_wp2_with fail
    refine(rnumber_any n w7 (by have:=N1.out;omega)).mono ?_
    rintro e w8 ⟨rfl,hg8⟩
    have G8:=Lib.hid (G7.out.trans hg8)
    obtain⟨c4,hc4⟩:∃c,cell4 n=c:=⟨_,rfl⟩
    have HC4:=Lib.hid hc4
    rw[hc4]
    clear hg8 hc4
    by_cases hvc:v=c4
    ·have hb:(v==c4)=true:=beq_iff_eq.2 hvc
     have CF:Hid (nk.props.contains ⟨phS,cell4 n⟩=true):=Lib.hid (by rw[CV.out,show valP nk.props phS=some v from HZ.out,hvc,HC4.out];simp)
     subst hvc
     clear hb
     go_wp2_with fail
     have e:phan ts (n:Int)=some k:=by
      rw[PH.out,List.findIdx?_eq_some_iff_getElem]
      exact⟨HLT.out,by rw[HNK.out];exact CF.out,fun j hj=>by rw[HA.out j hj (by have:=HLT.out;omega)];decide⟩
     rw[HP0.out,e]
     exact⟨rfl,G8.out⟩
    ·have hb:(v==c4)=false:=by rw[beq_eq_false_iff_ne];exact hvc
     have CF:Hid (nk.props.contains ⟨phS,cell4 n⟩=false):=Lib.hid (by rw[CV.out,show valP nk.props phS=some v from HZ.out,HC4.out];simpa using hvc)
     clear hvc
     go_wp2_with fail
     go_roundw
     case rel=>exact⟨k+1,by have:=HLT.out;omega,by go_num,fun j hj hjl=>(by
      by_cases e:j=k
      ·subst e;rw[HNK.out];exact CF.out
      ·exact HA.out j (by omega) hjl),G8.out⟩
     case measure=>simp[intOf];have:=HLT.out;omega
  ·have kn:¬(k:Int)<(ts.length:Int):=by omega
   have PN:Hid (phan ts (n:Int)=none):=Lib.hid (by
    rw[PH.out,List.findIdx?_eq_none_iff]
    intro x hx
    obtain⟨j,hj,rfl⟩:=List.getElem_of_mem hx
    exact HA.out j (by omega) hj)
   clear hlt
   go_wp2_with fail
   rw[HP0.out,PN.out]
   exact⟨rfl,HG.out⟩
theorem rArgs_C(ts:Tr)(i:Nat)(pa:Option Addr)(pc:Nat)(cn:St)(w:World)(hi:i<ts.length)(hv:CT ts)(hs:SlOf 2 RPrp w pa ts[i].props):
  Calls Tryz.prog 99 #[.agg #[.int .i64 ts[i].parent,.string (bs ts[i].name),.slice pa ts[i].props.length pc],.string (bs cn)] w (Grows w (.int .i64 ((argsN ts i cn).getD (-1)))):=by
 have NE:Hid (ts.getD i default=ts[i]):=Lib.hid (by rw[List.getD_eq_getElem?_getD,List.getElem?_eq_getElem hi];rfl)
 have LV:Hid (∀v,valP ts[i].props cn=some v→v.length≤256):=Lib.hid fun v hz=>by
  unfold valP at hz
  cases e:ts[i].props.find? (fun p=>p.name==cn) with
  |none=>rw[e] at hz;cases hz
  |some p=>rw[e] at hz;cases hz;exact hv.vals _ (List.getElem_mem hi) p (List.mem_of_find?_eq_some e)
 have N12:Hid (ts[i].props.length≤24):=Lib.hid (hv.fits _ (List.getElem_mem hi))
 have AN:Hid (argsN ts i cn=match valP ts[i].props cn with|none=>some 0|some v=>if cellsOk v=true∧(cellsL v).length=1∧(cellsL v).getD 0 0≤8 then some ((cellsL v).getD 0 0) else none):=Lib.hid (by unfold argsN;rw[NE.out];rfl)
 obtain⟨r,hr⟩:∃r,argsN ts i cn=r:=⟨_,rfl⟩
 rw[hr] at AN ⊢
 obtain⟨n,hn⟩:∃n,ts[i]=n:=⟨_,rfl⟩
 rw[hn] at hs LV N12 AN ⊢
 have HS:=Lib.hid hs
 clear hs hr hn NE
 obtain⟨P0,hP0⟩:∃P:Ending→World→Prop,P=Grows w (.int .i64 (r.getD (-1))):=⟨_,rfl⟩
 rw[←hP0]
 have HP0:=Lib.hid hP0
 clear hP0
 go_enter Tryz.func99,Tryz.ntmps99
 go_wp2_with fail
 refine(rOf_any n pa pc cn _ (HS.out.gr RPrp.mono ((Gr.refl _).alloc _)) (by have:=N12.out;omega)).mono ?_
 intro e w1 hgv
 cases hz:valP n.props cn with
 |none=>
  rw[hz] at hgv AN
  obtain⟨hg,rfl⟩:=hgv
  have G1:Hid (Gr w w1):=Lib.hid (((Gr.refl _).alloc _).trans hg)
  clear hg hz
  go_wp2_with fail
  rw[HP0.out,AN.out]
  exact⟨rfl,G1.out⟩
 |some v=>
  rw[hz] at hgv AN
  have lv:=LV.out v hz
  obtain⟨hg,rfl⟩:=hgv
  have G1:Hid (Gr w w1):=Lib.hid (((Gr.refl _).alloc _).trans hg)
  clear hg hz
  go_wp2_with fail
  refine(rCells_any v w1 (by omega)).mono ?_
  intro e w2 hgv
  unfold GivesCells at hgv
  by_cases hok:cellsOk v=true
  ·rw[if_pos hok] at hgv
   obtain⟨x,rfl,ho,hg⟩:=hgv
   have OK:=Lib.hid hok
   have GG:Hid (Gr w w2):=Lib.hid (G1.out.trans hg)
   obtain⟨xa,xc,rfl,_,hsl⟩:=ints_at ho (cells_wide v)
   have SL:=Lib.hid hsl
   clear hg hok ho hsl
   by_cases hl:(cellsL v).length=1
   ·obtain⟨z,hz⟩:∃z,cellsL v= [z]:=List.length_eq_one_iff.1 hl
    have BZ:=cells_bound v z (by rw[hz];simp)
    rw[hz] at SL AN ⊢
    obtain⟨b,o,rfl,c0,_⟩:=SL.out.one 0 (by simp)
    simp only[List.getElem_cons_zero,Nat.add_zero] at c0
    have hh:=has_of_cell c0
    by_cases h8:z≤8
    ·have R2:Hid (r=some z):=Lib.hid (by rw[AN.out];(try dsimp only);rw[if_pos ⟨OK.out,rfl,by simpa using h8⟩];rfl)
     have kb:decide (8<z)=false:=by simp;omega
     clear h8 hl hz
     go_wp2_with fail
     rw[HP0.out,R2.out]
     exact⟨rfl,GG.out⟩
    ·have R2:Hid (r=none):=Lib.hid (by rw[AN.out];(try dsimp only);rw[if_neg (by rintro⟨_,_,q⟩;exact h8 (by simpa using q))])
     have kb:decide (8<z)=true:=by simp;omega
     clear h8 hl hz
     go_wp2_with fail
     rw[HP0.out,R2.out]
     exact⟨rfl,GG.out⟩
   ·have R2:Hid (r=none):=Lib.hid (by rw[AN.out];(try dsimp only);rw[if_neg (by rintro⟨_,q,_⟩;exact hl q)])
    have kb:((cellsL v).length==1)=false:=by rw[beq_eq_false_iff_ne];exact hl
    have kb1:(((cellsL v).length:Int)==1)=false:=by rw[beq_eq_false_iff_ne];omega
    have kb2:(((cellsL v).length:Int) !=1)=true:=by rw[bne_iff_ne];omega
    clear hl
    go_wp2_with fail
    rw[HP0.out,R2.out]
    exact⟨rfl,GG.out⟩
  ·rw[if_neg hok] at hgv
   obtain⟨rfl,hg⟩:=hgv
   have GG:Hid (Gr w w2):=Lib.hid (G1.out.trans hg)
   have R2:Hid (r=none):=Lib.hid (by rw[AN.out];(try dsimp only);rw[if_neg (by rintro⟨q,_,_⟩;exact hok q)])
   clear hg hok
   go_wp2_with fail
   rw[HP0.out,R2.out]
   exact⟨rfl,GG.out⟩
theorem ofF_stepC{ts:Tr}{node:Int}{pn cn:St}{f:Nat}{p:Int}{l:List Int}{out:List Lnk}:ofF ts node pn cn (f+1) (p::l) out=match phan ts p with|none=> .error 25|some k=>match argsN ts k cn with|none=> .error 26|some n=>if(l.length:Int)<n then .error 26 else ofF ts node pn cn f (l.drop n.toNat) (out++ [⟨node,k,pn,out.length,l.take n.toNat⟩]):=rfl
theorem rof_C(ts:Tr)(a:Option Addr)(cap i:Nat)(pn cn:St)(w:World)(h:SlOf 3 RNod w a ts)(hv:CT ts)(hi:i<ts.length):
  Calls Tryz.prog 50 #[.agg #[.slice a ts.length cap],.int .i64 i,.string (bs pn),.string (bs cn)] w (GivesLks w (ofT ts i pn cn)):=by
 have H:=Lib.hid h
 have HV:=Lib.hid hv
 have h120:=hv.few
 have NE:Hid (ts.getD i default=ts[i]):=Lib.hid (by rw[List.getD_eq_getElem?_getD,List.getElem?_eq_getElem hi];rfl)
 have LV:Hid (∀v,valP ts[i].props pn=some v→v.length≤256):=Lib.hid fun v hz=>by
  unfold valP at hz
  cases e:ts[i].props.find? (fun p=>p.name==pn) with
  |none=>rw[e] at hz;cases hz
  |some p=>rw[e] at hz;cases hz;exact hv.vals _ (List.getElem_mem hi) p (List.mem_of_find?_eq_some e)
 have N12:Hid (∀k (hk:k<ts.length),ts[k].props.length≤24):=Lib.hid (fun k hk=>hv.fits _ (List.getElem_mem hk))
 have OT:Hid (ofT ts i pn cn=match valP ts[i].props pn with|none=> .ok []|some v=>if v= [] then .ok [] else if cellsOk v then ofF ts i pn cn (cellsL v).length (cellsL v) [] else .error 26):=Lib.hid (by unfold ofT;rw[NE.out];rfl)
 obtain⟨j0,hj,hy0,hy1,hy2⟩:=info_parts infoLnk
 obtain⟨i0,hi0,hz0,hz1,hz2⟩:=info_parts infoInt
 obtain⟨R,hR⟩:∃R,ofT ts i pn cn=R:=⟨_,rfl⟩
 rw[hR] at OT ⊢
 obtain⟨P0,hP0⟩:∃P:Ending→World→Prop,P=GivesLks w R:=⟨_,rfl⟩
 rw[←hP0]
 have HP0:=Lib.hid hP0
 have EMP:Hid (R= .ok []→∀w',Gr w w'→P0 (.returned (.tuple #[.slice none 0 0,.int .i64 0])) w'):=Lib.hid fun q w' hg=>by
  rw[hP0,q];exact⟨_,[],rfl,rfl,World.ownsRow_nil _ _ _ _,LRows.nil _ _,hg⟩
 have ERR:Hid (∀k,R= .error k→∀w',Gr w w'→P0 (.returned (.tuple #[.slice none 0 0,.int .i64 k])) w'):=Lib.hid fun k q w' hg=>by
  rw[hP0,q];exact⟨rfl,hg⟩
 clear hP0 h hv hR NE
 go_enter Tryz.func50,Tryz.ntmps50
 go_upto_region 1 with(fail)
 have RB:=Lib.hid (Row.new w #[.slice a ts.length cap] 31)
 obtain⟨W1,hW1⟩:∃W:World,Hid (W=w.alloc (.cells #[.slice a ts.length cap] 31)):=⟨_,Lib.hid rfl⟩
 have G1:Hid (Gr w W1):=Lib.hid (by rw[hW1.out];exact(Gr.refl _).alloc _)
 rw[←hW1.out] at RB ⊢
 obtain⟨PB,hPB⟩:∃N:Nat,Hid (w.heap.size=N):=⟨_,Lib.hid rfl⟩
 rw[hPB.out] at RB ⊢
 clear hW1
 obtain⟨b,o,pa,pc,ea,c0,c1,c2,hps,hpf,hw,hnl⟩:=nods_at (H.out.gr RNod.mono G1.out) i hi
 subst ea
 have NI:=Lib.hid (N12.out i hi)
 obtain⟨ni,hni⟩:∃t,ts[i]=t:=⟨_,rfl⟩
 rw[hni] at c0 c1 c2 hps LV NI OT
 have HPS:=Lib.hid hps
 have hh:=has_of_cell c0
 have x0:=RB.out.cell 0 (by simp)
 simp only[List.getElem_cons_zero] at x0
 have hx:=has_of_cell x0
 have kn:(i:Int)<(ts.length:Int):=by omega
 clear hni hps hpf hw hnl
 go_wp2_with fail
 refine(rOf_any ni pa pc pn W1 HPS.out (by have:=NI.out;omega)).mono ?_
 intro e w2 hgv
 clear c0 c1 c2 hh x0 hx
 cases hz:valP ni.props pn with
 |none=>
  rw[hz] at hgv OT
  obtain⟨hg,rfl⟩:=hgv
  have G2:=Lib.hid (G1.out.trans hg)
  clear hg hz
  go_wp2_with fail
  refine(rCells_any [] w2 (by simp)).mono ?_
  intro e w3 hgv
  unfold GivesCells at hgv
  rw[if_neg (by decide)] at hgv
  obtain⟨rfl,hg⟩:=hgv
  have G3:=Lib.hid (G2.out.trans hg)
  clear hg
  go_wp2_with fail
  go_loopw [14,15] (fun x s wr=>x= .slice none 0 0∧s= .int .i64 0∧Gr w wr) (fun _ _ _=>0)
  case atStart=>exact⟨rfl,rfl,G3.out⟩
  case round=>
   obtain⟨rfl,rfl,hg⟩:=hrel
   have HG:=Lib.hid hg
   clear hg
   go_wp2_with fail
   exact EMP.out OT.out _ HG.out
 |some v=>
  rw[hz] at hgv OT
  have lv:=LV.out v hz
  obtain⟨hg,rfl⟩:=hgv
  have G2:=Lib.hid (G1.out.trans hg)
  have RB2:=Lib.hid (RB.out.gr hg)
  clear hg hz
  go_wp2_with fail
  refine(rCells_any v w2 (by omega)).mono ?_
  intro e w3 hgv
  unfold GivesCells at hgv
  by_cases hv0:v= []
  ·subst hv0
   rw[if_neg (by decide)] at hgv
   have OT:=Lib.hid (show R= .ok [] from OT.out)
   obtain⟨rfl,hg⟩:=hgv
   have G3:=Lib.hid (G2.out.trans hg)
   clear hg
   go_wp2_with fail
   go_loopw [14,15] (fun x s wr=>x= .slice none 0 0∧s= .int .i64 0∧Gr w wr) (fun _ _ _=>0)
   case atStart=>exact⟨rfl,rfl,G3.out⟩
   case round=>
    obtain⟨rfl,rfl,hg⟩:=hrel
    have HG:=Lib.hid hg
    clear hg
    go_wp2_with fail
    exact EMP.out OT.out _ HG.out
  ·have hb1:(v== [])=false:=by rw[beq_eq_false_iff_ne];exact hv0
   have hb2:(v != [])=true:=by simp[bne,hb1]
   have OT2:Hid (R=if cellsOk v then ofF ts i pn cn (cellsL v).length (cellsL v) [] else .error 26):=Lib.hid (by rw[OT.out];(try dsimp only);rw[if_neg hv0])
   clear OT
   by_cases hok:cellsOk v=true
   ·rw[if_pos hok] at hgv OT2
    obtain⟨x,rfl,ho,hg⟩:=hgv
    have G3:=Lib.hid (G2.out.trans hg)
    have RB3:=Lib.hid (RB2.out.gr hg)
    obtain⟨xa,xc,rfl,hxc,hsl⟩:=ints_at ho (cells_wide v)
    have hpos:0<(cellsL v).length:=by
     rw[cellsL_length];simp[cellsOk] at hok;have:0<v.length:=List.length_pos_iff.2 hok.1;omega
    obtain⟨g,o2,rfl,hzz⟩:=hsl 0 hpos
    have SL:=Lib.hid hsl
    have TY:Hid (Ty w3 g 3):=Lib.hid (owns_ty ho rfl)
    have WD:=Lib.hid (cells_wide v)
    have LC:Hid ((cellsL v).length≤64):=Lib.hid (by rw[cellsL_length];omega)
    obtain⟨l,hl⟩:∃l,cellsL v=l:=⟨_,rfl⟩
    rw[hl] at SL OT2 WD LC hxc ⊢
    have hposA:Hid (0<l.length):=Lib.hid (by rw[←hl];exact hpos)
    clear hok ho hg hsl hzz hpos hl RB2
    obtain⟨L,hL⟩:∃N:Nat,Hid (l.length=N):=⟨_,Lib.hid rfl⟩
    rw[hL.out] at LC hxc ⊢
    have l64:=LC.out
    have hpos0:Hid (0<L):=Lib.hid (by rw[←hL.out];exact hposA.out)
    go_wp2_with fail
    have hpos:0<L:=by
     have:=hpos0.out
     omega
    clear hv0 hb1 hb2
    go_loopw [14,15] (fun x s wr=>∃(k f:Nat) (ls:List LT),k≤L∧s= .int .i64 (k:Int)∧R=ofF ts i pn cn f (l.drop k) (lks ls)∧L≤f+k∧ls.length≤k∧wr.ownsRow w.heap.size 40 5 x ls.length (encLks ls)∧LRows wr w.heap.size ls∧SlOf 1 RI wr (some ⟨g,o2,none⟩) l∧Ty wr g 3∧Row wr PB 31 [.slice (some ⟨b,o,none⟩) ts.length cap]∧Gr w wr) (fun _ s _=>L-(intOf s).toNat)
    case atStart=>exact⟨0,L,[],Nat.zero_le _,rfl,by rw[OT2.out,hL.out];rfl,by omega,by simp,World.ownsRow_nil _ _ _ _,LRows.nil _ _,SL.out,TY.out,RB3.out,G3.out⟩
    case round=>
     clear SL TY RB3 G3 OT2 G2 RB
     obtain⟨k,f,ls,hk,rfl,hof,hfk,hlk,ho,hlr,hsl,hty,hrb,hg⟩:=hrel
     obtain⟨va,vc,rfl⟩:=owns_slice ho
     have OF:=Lib.hid hof
     have OW:=Lib.hid ho
     have LR:=Lib.hid hlr
     have SL:=Lib.hid hsl
     have TY:=Lib.hid hty
     have HRB:=Lib.hid hrb
     have HG:=Lib.hid hg
     have b0:=hrb.cell 0 (by simp)
     simp only[List.getElem_cons_zero] at b0
     have hh:=has_of_cell b0
     have LS:ls.length≤64:=by omega
     clear hof ho hlr hsl hty hrb hg
     by_cases hlt:k<L
     ·have hkl:k<l.length:=by rw[hL.out];exact hlt
      obtain⟨f,rfl⟩:∃q,f=q+1:=⟨f-1,by omega⟩
      obtain⟨g',o',e',d0⟩:=SL.out.one k hkl
      cases e'
      have d1:=d0.1
      have hh2:=has_of_cell d1
      have DR:Hid (l.drop k=l[k]::l.drop (k+1)):=Lib.hid (List.drop_eq_getElem_cons hkl)
      obtain⟨p,hp⟩:∃p,l[k]=p:=⟨_,rfl⟩
      rw[hp] at d1 DR
      rw[DR.out] at OF
      have OF2:Hid (R=match phan ts p with|none=> .error 25|some kk=>match argsN ts kk cn with|none=> .error 26|some n=>if((l.drop (k+1)).length:Int)<n then .error 26 else ofF ts i pn cn f ((l.drop (k+1)).drop n.toNat) (lks ls++ [⟨i,kk,pn,(lks ls).length,(l.drop (k+1)).take n.toNat⟩])):=Lib.hid (by rw[OF.out,ofF_stepC])
      have kL:(k:Int)<(L:Int):=by omega
      have HLT:=Lib.hid hlt
      have HFK:=Lib.hid (And.intro hfk hlk)
      clear d0 hp hlt OF DR hfk hlk hpos
      go_wp2_with fail
      refine wp_region_grows (by kernel_rfl) (by kernel_rfl) ?_
      repeat(go_big_quiet_step (first|(go_at_call 98;exact calls_grows (rPhandle_C ts (some ⟨b,o,none⟩) cap p _ (H.out.gr RNod.mono (by repeat(first|with_reducible exact Gr.refl _|with_reducible exact HG.out|with_reducible refine Gr.xt _ _ ?_|with_reducible refine Gr.alloc _ ?_))) HV.out))))
      refine wpQuiet_nil ?_
      rintro _ ⟨⟨O,d9⟩,rfl⟩
      have G5:Hid (Gr wr (xt wr O d9)):=Lib.hid ((Gr.refl _).xt _ _)
      obtain⟨W5,hW5⟩:∃W:World,Hid (W=xt wr O d9):=⟨_,Lib.hid rfl⟩
      have hW5':=hW5.out
      rw[←hW5'] at G5 ⊢
      have HG5:=Lib.hid (HG.out.trans G5.out)
      have SL5:=Lib.hid (SL.out.giI G5.out)
      have OW5:=Lib.hid (Gr.owns OW.out G5.out)
      have LR5:=Lib.hid (LR.out.gr G5.out)
      have TY5:=Lib.hid (TY.out.gr G5.out)
      have HRB5:=Lib.hid (HRB.out.gr G5.out)
      clear b0 hh d1 hh2 hW5' hW5 SL OW LR TY HRB HG G5
      cases hph:phan ts p with
      |none=>
       rw[hph] at OF2
       clear hph
       go_wp2_with fail
       exact ERR.out 25 OF2.out _ HG5.out
      |some kk=>
       have hkk:=phan_lt hph
       rw[hph] at OF2
       have b5:=HRB5.out.cell 0 (by simp)
       simp only[List.getElem_cons_zero] at b5
       have hh5:=has_of_cell b5
       obtain⟨bb,oo,pa2,pc2,ea,c0,c1,c2,hps,hpf,hw,hnl⟩:=nods_at (H.out.gr RNod.mono HG5.out) kk hkk
       cases ea
       have RA:=Lib.hid (rArgs_C ts kk pa2 pc2 cn W5 hkk HV.out hps)
       obtain⟨nk,hnk⟩:∃t,ts[kk]=t:=⟨_,rfl⟩
       rw[hnk] at c0 c1 c2 RA
       have hc0:=has_of_cell c0
       have kn2:(kk:Int)<(ts.length:Int):=by omega
       clear hph hnk hps hpf hw hnl
       go_wp2_with fail
       refine RA.out.mono ?_
       rintro e w6 ⟨rfl,hg6⟩
       have HG6:=Lib.hid (HG5.out.trans hg6)
       have SL6:=Lib.hid (SL5.out.giI hg6)
       have OW6:=Lib.hid (Gr.owns OW5.out hg6)
       have LR6:=Lib.hid (LR5.out.gr hg6)
       have TY6:=Lib.hid (TY5.out.gr hg6)
       have HRB6:=Lib.hid (HRB5.out.gr hg6)
       clear hg6 b5 hh5 c0 c1 c2 hc0 HG5 SL5 OW5 LR5 TY5 HRB5 RA
       cases han:argsN ts kk cn with
       |none=>
        rw[han] at OF2
        clear han
        go_wp2_with fail
        exact ERR.out 26 OF2.out _ HG6.out
       |some n=>
        obtain⟨n0,n8⟩:=argsN_le han
        rw[han] at OF2
        clear han
        obtain⟨q,rfl⟩:∃q:Nat,n=q:=⟨n.toNat,by omega⟩
        have RL:Hid ((l.drop (k+1)).length=L-k-1):=Lib.hid (by rw[List.length_drop,hL.out];omega)
        have OF2:Hid (R=if((L-k-1:Nat):Int)<(q:Int) then .error 26 else ofF ts i pn cn f ((l.drop (k+1)).drop q) (lks ls++ [⟨i,kk,pn,(lks ls).length,(l.drop (k+1)).take q⟩])):=Lib.hid (by rw[OF2.out];dsimp only;rw[RL.out,Int.toNat_natCast])
        have q8:q≤8:=by omega
        have kb0:decide ((q:Int)<0)=false:=by rw[decide_eq_false_iff_not];omega
        by_cases hlq:L-k-1<q
        ·have OF3:Hid (R= .error 26):=Lib.hid (by rw[OF2.out,if_pos (by omega)])
         have kq:decide ((L:Int)-(k:Int)-1<(q:Int))=true:=by simp;omega
         have kq2:(L:Int)-(k:Int)-1<(q:Int):=by omega
         clear hlq n0 n8
         go_wp2_with fail
         exact ERR.out 26 OF3.out _ HG6.out
        ·have kq:decide ((L:Int)-(k:Int)-1<(q:Int))=false:=by rw[decide_eq_false_iff_not];omega
         have HLQ:Hid (k+1+q≤L):=Lib.hid (by omega)
         have OF3:Hid (R=ofF ts i pn cn f ((l.drop (k+1)).drop q) (lks ls++ [⟨i,kk,pn,(lks ls).length,(l.drop (k+1)).take q⟩])):=Lib.hid (by rw[OF2.out,if_neg (by omega)])
         have k1:(k:Int)+1+q≤L:=by omega
         have kq0:(k:Int)+1≤(k:Int)+1+q:=by omega
         have k2:(k:Int)+1+q≤(xc:Int):=by omega
         have k3:(0:Int)≤(k:Int)+1+q:=by omega
         have XC:Hid (L≤xc):=Lib.hid hxc
         clear hlq OF2 n0 n8
         obtain⟨o4,ho4⟩:∃o4,Hid (o4=if xc=k+1 then o2 else o2+(k+1)):=⟨_,Lib.hid rfl⟩
         have P1:(if xc=k+1 then(some ⟨g,o2,none⟩:Option Addr) else some ⟨g,o2+(k+1),none⟩)=some ⟨g,o4,none⟩:=by rw[ho4.out];split<;>rfl
         obtain⟨ar,har⟩:∃ar,(l.drop (k+1)).take q=ar:=⟨_,rfl⟩
         have AL:Hid (ar.length=q):=Lib.hid (by rw[←har,List.length_take,RL.out];have:=HLQ.out;omega)
         have AW:Hid (∀z∈ar,Wide z):=Lib.hid (fun z hz=>WD.out z (List.mem_of_mem_drop (List.mem_of_mem_take (har▸hz))))
         have SRC:Hid (Gets (w6.alloc (.cells #[] 3)) (some ⟨g,o4,none⟩) q 1 (nums ar)):=Lib.hid (by
          refine⟨by simp[nums,AL.out],fun hq=>⟨_,rfl,fun j u hu=>?_⟩⟩
          obtain⟨hj,e⟩:=List.getElem?_eq_some_iff.1 hu
          have hj2:j<q:=by have h:=hj;simp only[nums,List.length_map] at h;rw[AL.out] at h;exact h
          have hjl:k+1+j<l.length:=by rw[hL.out];have:=HLQ.out;omega
          obtain⟨g2,o9,e2,h2⟩:=SL6.out.one (k+1+j) hjl
          cases e2
          rw[Addr.add_lit,ho4.out,if_neg (by have:=HLQ.out;have:=XC.out;omega),show o2+(k+1)+j=o2+(k+1+j) by omega,cell_gr ((Gr.refl w6).alloc _) h2.1,←e]
          simp only[nums,List.getElem_map,←har,List.getElem_take,List.getElem_drop])
         rw[har] at OF3
         clear har hxc
         go_wp2_with (first|(at_builtin;refine wpList_append_gets _ rfl _ _ 38 rfl w6.heap.size 3 i0 (.int .i64 0) 1 8 Tryz.underlying38 hi0 hz0 hz1 hz2 rfl (by decide) (.slice (some ⟨w6.heap.size,0,none⟩) 0 0) 0 [] rfl (World.ownsRow_made w6 #[] 0 (Nat.le_refl _) (by simp) rfl) (some ⟨g,o4,none⟩) (k+1+q-(k+1)) (xc-(k+1)) (nums ar) rfl (by rw[show k+1+q-(k+1)=q by omega];exact SRC.out) (nums_one _) (by unfold maxLen;omega) (by omega) (by simp) ?_;intro v7 w7 hown hgrow hloc;obtain⟨x7,z7,rfl⟩:=owns_slice hown;rw[show 0+(k+1+q-(k+1))=q by omega] at hown;rw[show 0+(k+1+q-(k+1))=q by omega];rw[List.nil_append] at hown;have O7:=Lib.hid hown;have G7:Hid (Gr w6 w7):=Lib.hid (((Gr.refl w6).alloc _).grown hgrow (fun k e=>by cases e;exact Nat.le_refl _));clear hown hgrow hloc;have HG7:=Lib.hid (HG6.out.trans G7.out);have OW7:=Lib.hid (Gr.owns OW6.out G7.out);have LK7:Hid (w7.ownsRow w6.heap.size 3 1 (.slice x7 ar.length z7) ar.length (nums ar)):=Lib.hid (by rw[AL.out];exact O7.out);have LR7:=Lib.hid ((LR6.out.gr G7.out).snoc (t:=⟨⟨i,kk,pn,(lks ls).length,ar⟩,x7,z7⟩) ⟨owns_low LK7.out HG6.out.size,AW.out,by rw[AL.out];omega⟩);have TY7:=Lib.hid (TY6.out.gr G7.out);have HRB7:=Lib.hid (HRB6.out.gr G7.out);have SL7:=Lib.hid (SL6.out.giI G7.out);have EK:Hid (encLk ⟨⟨i,kk,pn,(lks ls).length,ar⟩,x7,z7⟩= [.int .i64 i,.int .i64 kk,.string (bs pn),.int .i64 ls.length,.slice x7 q z7]):=Lib.hid (by simp only[encLk,AL.out,lks,List.length_map]);have NR:=Lib.hid (row_cells (Row.new w7 #[.int .i64 i,.int .i64 kk,.string (bs pn),.int .i64 ls.length,.slice x7 q z7] 40)))|(at_builtin;refine wpList_append_own _ rfl _ _ 35 rfl w.heap.size 40 j0 (.agg #[.int .i64 0,.int .i64 0,.string (bs []),.int .i64 0,.slice none 0 0]) 5 64 Tryz.underlying35 hj hy0 hy1 hy2 rfl (by decide) (.slice va ls.length vc) ls.length (encLks ls) rfl (OW7.out.alloc _) ⟨w7.heap.size,0,none⟩ 1 1 [.int .i64 i,.int .i64 kk,.string (bs pn),.int .i64 ls.length,.slice x7 q z7] rfl rfl NR.out (by rw[←EK.out];exact encLk_one _) (by unfold maxLen;omega) (by omega) (by have:=HG7.out.size;simp;omega) ?_;intro v' wz hown' hgrow' hnil;have HOz:=Lib.hid hown';have HGz:=Lib.hid hgrow';clear hown' hgrow' hnil))
         go_roundw
         case rel=>
          have ga:Gr w7 (w7.alloc (.cells #[.int .i64 i,.int .i64 kk,.string (bs pn),.int .i64 ls.length,.slice x7 q z7] 40)):=(Gr.refl w7).alloc _
          have OA:=Gr.owns OW7.out ga
          have TYA:=TY7.out.gr ga
          have RA:=HRB7.out.gr ga
          have GA:=HG7.out.trans ga
          refine⟨k+1+q,f,ls++ [⟨⟨i,kk,pn,(lks ls).length,ar⟩,x7,z7⟩],HLQ.out,by go_num,?_,by have:=HFK.out;omega,by rw[List.length_append];have:=HFK.out;simp only[List.length_cons,List.length_nil];omega,?_,(LR7.out.gr ga).kept OA (by decide) HGz.out,slI_kept (SL7.out.giI ga) HGz.out (TYA.ne OA (by decide)) TYA.lt,TYA.kept HGz.out (TYA.ne OA (by decide)),RA.kept HGz.out (RA.ty.ne OA (by decide)),GA.grown HGz.out (fun j e=>(OA.lt j e).1)⟩
          ·rw[OF3.out,List.drop_drop]
           simp only[lks,List.map_append,List.map_cons,List.map_nil]
          ·have:=HOz.out
           rw[List.length_append]
           unfold encLks at this ⊢
           rw[List.flatMap_append,List.flatMap_cons,List.flatMap_nil,List.append_nil,EK.out]
           exact this
         case measure=>simp[intOf];have:=HLT.out;omega
     ·obtain rfl:L=k:=by omega
      have R2:Hid (R= .ok (lks ls)):=Lib.hid (by rw[OF.out,List.drop_eq_nil_of_le (by rw[hL.out];exact Nat.le_refl _)];cases f<;>rfl)
      have kL:¬(L:Int)<(L:Int):=by omega
      clear hlt
      go_wp2_with fail
      rw[HP0.out,R2.out]
      exact⟨_,ls,rfl,rfl,OW.out,LR.out,HG.out⟩
   ·rw[if_neg hok] at hgv OT2
    obtain⟨rfl,hg⟩:=hgv
    have G3:=Lib.hid (G2.out.trans hg)
    clear hg hok
    go_wp2_with fail
    exact ERR.out _ OT2.out _ G3.out
theorem rAll_C(ts:Tr)(a:Option Addr)(cap:Nat)(pn cn:St)(w:World)(h:SlOf 3 RNod w a ts)(hv:CT ts):
  Calls Tryz.prog 13 #[.agg #[.slice a ts.length cap],.string (bs pn),.string (bs cn)] w (GivesLks w (allT ts pn cn ts.length)):=by
 have H:=Lib.hid h
 have HV:=Lib.hid hv
 have hc:=hv.chk
 have G:=Lib.hid (good_of hc)
 have h120:=(good_of hc).len.2
 obtain⟨j0,hj,hy0,hy1,hy2⟩:=info_parts infoLnk
 clear h hc hv
 go_enter Tryz.func13,Tryz.ntmps13
 go_wp2_with fail
 have RB:=Lib.hid (Row.new w #[.slice a ts.length cap] 31)
 obtain⟨W1,hW1⟩:∃W:World,Hid (W=w.alloc (.cells #[.slice a ts.length cap] 31)):=⟨_,Lib.hid rfl⟩
 rw[←hW1.out] at RB ⊢
 have G1:Hid (Gr w W1):=Lib.hid (by rw[hW1.out];exact(Gr.refl _).alloc _)
 obtain⟨P0,hP0⟩:∃N:Nat,Hid (w.heap.size=N):=⟨_,Lib.hid rfl⟩
 rw[hP0.out] at RB ⊢
 clear hW1 hP0
 refine(rCheck_C ts a cap W1 (H.out.gr RNod.mono G1.out) HV.out).mono ?_
 rintro e w1 ⟨rfl,hg1⟩
 have G2:=Lib.hid (G1.out.trans hg1)
 have RB2:=Lib.hid (RB.out.gr hg1)
 have b0:w1.cell? ⟨P0,0,none⟩=some (.slice a ts.length cap):=RB2.out.cell 0 (by simp)
 clear hg1 RB G1
 go_wp2_with fail
 go_loopw [9,21] (fun x i wr=>∃(k:Nat) (ls:List LT),k≤ts.length∧i= .int .i64 k∧allT ts pn cn k= .ok (lks ls)∧ls.length≤k*64∧wr.ownsRow w.heap.size 40 5 x ls.length (encLks ls)∧LRows wr w.heap.size ls∧Row wr P0 31 [.slice a ts.length cap]∧Gr w wr) (fun _ i _=>ts.length-(intOf i).toNat)
 case atStart=>exact⟨0,[],Nat.zero_le _,rfl,rfl,by simp,World.ownsRow_nil _ _ _ _,LRows.nil _ _,RB2.out,G2.out⟩
 case round=>
  clear b0 RB2 G2
  obtain⟨k,ls,hk,rfl,hal,hln,ho,hlr,hrb,hg⟩:=hrel
  obtain⟨va,vc,rfl⟩:=owns_slice ho
  have AL:=Lib.hid hal
  have OW:=Lib.hid ho
  have LR:=Lib.hid hlr
  have HRB:=Lib.hid hrb
  have HG:=Lib.hid hg
  have b0:wr.cell? ⟨P0,0,none⟩=some (.slice a ts.length cap):=hrb.cell 0 (by simp)
  clear hal ho hlr hrb hg
  by_cases hlt:k<ts.length
  ·go_wp2_with fail
   refine(rof_C ts a cap k pn cn wr (H.out.gr RNod.mono HG.out) HV.out hlt).mono ?_
   intro e w2 hgv
   cases hz:ofT ts k pn cn with
   |error er=>
    rw[hz] at hgv
    have A2:Hid (allT ts pn cn ts.length= .error er):=Lib.hid (allT_err (k:=k+1) (by omega) (by rw[allT,AL.out];simp only[hz]))
    obtain⟨rfl,hg⟩:=hgv
    have G3:=Lib.hid (HG.out.trans hg)
    have ern:Hid (er=25∨er=26):=Lib.hid (ofT_err hz)
    have eb:(er !=0)=true:=by rw[bne_iff_ne];have:=ern.out;omega
    clear hg hz
    go_wp2_with fail
    refine bodyPost_ret (v:= .tuple #[.slice none 0 0,.int .i64 er]) (by simp[results,Tryz.results13,go_sem]) rfl ?_
    rw[A2.out]
    exact⟨rfl,G3.out⟩
   |ok l2=>
    rw[hz] at hgv
    have A2:Hid (allT ts pn cn (k+1)= .ok (lks ls++l2)):=Lib.hid (by rw[allT,AL.out];simp only[hz])
    have L2:=ofT_len G.out hlt hz
    obtain⟨v,ls2,rfl,h1,h2,h3,hg⟩:=hgv
    obtain⟨va2,vc2,rfl⟩:=owns_slice h2
    have hl2:ls2.length≤64:=by rw[←h1] at L2;simpa [lks] using L2
    have G3:=Lib.hid (HG.out.trans hg)
    have OW3:=Lib.hid (Gr.owns OW.out hg)
    have LR3:=Lib.hid (LR.out.gr hg)
    have HRB3:=Lib.hid (HRB.out.gr hg)
    have H1:=Lib.hid h1
    have GT:Hid (Gets w2 va2 ls2.length 5 (encLks ls2)):=Lib.hid (gets_owns h2)
    have LR2:Hid (LRows w2 w.heap.size ls2):=Lib.hid fun t ht=>⟨owns_low (h3 t ht).1 HG.out.size,(h3 t ht).2⟩
    clear hg hz h1 h2 h3 L2 b0
    have ON:Hid (∀u∈encLks ls2,u.oneCell'=true):=Lib.hid (fun u hu=>by obtain⟨t,_,h⟩:=List.mem_flatMap.1 hu;exact encLk_one t u h)
    go_wp2_with (at_builtin;refine wpList_append_gets _ rfl _ _ 35 rfl w.heap.size 40 j0 (.agg #[.int .i64 0,.int .i64 0,.string (bs []),.int .i64 0,.slice none 0 0]) 5 64 Tryz.underlying35 hj hy0 hy1 hy2 rfl (by decide) (.slice va ls.length vc) ls.length (encLks ls) rfl OW3.out va2 ls2.length vc2 (encLks ls2) rfl GT.out ON.out (by unfold maxLen;omega) (by omega) G3.out.size ?_;intro v' wz hown' hgrow hnil;have HOz:=Lib.hid hown';have HGz:=Lib.hid hgrow;clear hown' hgrow hnil)
    go_roundw
    case rel=>
     refine⟨k+1,ls++ls2,by omega,by go_num,by rw[A2.out,←H1.out];simp[lks],by rw[List.length_append];omega,?_,?_,?_,?_⟩
     ·have:=HOz.out
      rw[List.length_append]
      unfold encLks at this ⊢
      rw[List.flatMap_append]
      exact this
     ·exact(LR3.out.kept OW3.out (by decide) HGz.out).append (LR2.out.kept OW3.out (by decide) HGz.out)
     ·exact HRB3.out.kept HGz.out (HRB3.out.ty.ne OW3.out (by decide))
     ·exact G3.out.grown HGz.out (fun j e=>(OW3.out.lt j e).1)
    case measure=>simp[intOf];omega
  ·obtain rfl:k=ts.length:=by omega
   go_wp2_with fail
   refine bodyPost_ret (v:= .tuple #[.slice va ls.length vc,.int .i64 0]) (by simp[results,Tryz.results13,go_sem]) rfl ?_
   rw[AL.out]
   exact⟨_,ls,rfl,rfl,OW.out,LR.out,HG.out⟩
theorem rCheck_err(ts:Tr)(a:Option Addr)(cap:Nat){c:Int}(w:World)(h:SlOf 3 RNod w a ts)(hv:ts.length≤1000000)(hb:chkT ts=c):
  Calls Tryz.prog 49 #[.agg #[.slice a ts.length cap]] w (Grows w (.int .i64 c)):=by
 have q:=rCheck_any ts a cap w h hv
 rwa [hb] at q
theorem treeCheck_err(ts:Tr)(a:Option Addr)(cap:Nat){c:Int}(w:World)(h:SlOf 3 RNod w a ts)(hv:ts.length≤1000000)(hb:chkT ts=c):
  Calls Tryz.prog 51 #[.agg #[.slice a ts.length cap]] w (Grows w (.int .i64 c)):=by
 have q:=treeCheck_any ts a cap w h (by unfold Fit;omega)
 rwa [hb] at q
theorem rAll_err(ts:Tr)(a:Option Addr)(cap:Nat)(pn cn:St)(c:Int)(w:World)(h:SlOf 3 RNod w a ts)(hv:ts.length≤1000000)(hb:chkT ts=c)(h0:c≠0):
  Calls Tryz.prog 13 #[.agg #[.slice a ts.length cap],.string (bs pn),.string (bs cn)] w fun e w'=>e= .returned (.tuple #[.slice none 0 0,.int .i64 c])∧Gr w w':=by
 have H:=Lib.hid h
 have HV:=Lib.hid hv
 have HB:=Lib.hid hb
 have h120:ts.length≤1000000:=hv
 have c00:(c==0)=false:=by rw[beq_eq_false_iff_ne];exact h0
 have c01:¬c=0:=h0
 have H0:=Lib.hid h0
 clear h hv hb h0
 obtain⟨P0,hP0⟩:∃P:Ending→World→Prop,P=fun e w'=>e= .returned (.tuple #[.slice none 0 0,.int .i64 c])∧Gr w w':=⟨_,rfl⟩
 rw[←hP0]
 have HP0:=Lib.hid hP0
 clear hP0
 go_enter Tryz.func13,Tryz.ntmps13
 go_wp2_with fail
 (try go_step3)
 (try go_wp2_with fail)
 have RB:=Lib.hid (Row.new w #[.slice a ts.length cap] 31)
 refine(rCheck_err ts a cap _ (H.out.gr RNod.mono ((Gr.refl _).alloc _)) HV.out HB.out).mono ?_
 rintro e w1 ⟨rfl,hg1⟩
 have G2:Hid (Gr w w1):=Lib.hid (((Gr.refl _).alloc _).trans hg1)
 clear hg1 RB
 go_wp2_with fail
 rw[HP0.out]
 exact⟨rfl,G2.out⟩
theorem all_err(ts:Tr)(a:Option Addr)(cap:Nat)(pn cn:St)(c:Int)(w:World)(h:SlOf 3 RNod w a ts)(hv:ts.length≤1000000)(hb:chkT ts=c)(h0:c≠0):
  Calls Tryz.prog 14 #[.agg #[.slice a ts.length cap],.string (bs pn),.string (bs cn)] w fun e w'=>e= .returned (.tuple #[.slice none 0 0,.int .i64 c])∧Gr w w':=by
 have H:=Lib.hid h
 have HV:=Lib.hid hv
 have HB:=Lib.hid hb
 have h120:ts.length≤1000000:=hv
 have c00:(c==0)=false:=by rw[beq_eq_false_iff_ne];exact h0
 have c01:¬c=0:=h0
 have H0:=Lib.hid h0
 clear h hv hb h0
 obtain⟨P0,hP0⟩:∃P:Ending→World→Prop,P=fun e w'=>e= .returned (.tuple #[.slice none 0 0,.int .i64 c])∧Gr w w':=⟨_,rfl⟩
 rw[←hP0]
 have HP0:=Lib.hid hP0
 clear hP0
 go_enter Tryz.func14,Tryz.ntmps14
 go_wp2_with fail
 (try go_step3)
 (try go_wp2_with fail)
 have RB:=Lib.hid (Row.new w #[.slice a ts.length cap] 31)
 refine(treeCheck_err ts a cap _ (H.out.gr RNod.mono ((Gr.refl _).alloc _)) HV.out HB.out).mono ?_
 rintro e w1 ⟨rfl,hg1⟩
 have G2:Hid (Gr w w1):=Lib.hid (((Gr.refl _).alloc _).trans hg1)
 clear hg1 RB
 go_wp2_with fail
 rw[HP0.out]
 exact⟨rfl,G2.out⟩
theorem graph_err(ts:Tr)(a:Option Addr)(cap:Nat)(pn cn:St)(c:Int)(w:World)(h:SlOf 3 RNod w a ts)(hv:ts.length≤1000000)(hb:chkT ts=c)(h0:c≠0):
  Calls Tryz.prog 53 #[.agg #[.slice a ts.length cap],.string (bs pn),.string (bs cn)] w fun e w'=>e= .returned (.tuple #[.slice none 0 0,.int .i64 c])∧Gr w w':=by
 have H:=Lib.hid h
 have HV:=Lib.hid hv
 have HB:=Lib.hid hb
 have h120:ts.length≤1000000:=hv
 have c00:(c==0)=false:=by rw[beq_eq_false_iff_ne];exact h0
 have c01:¬c=0:=h0
 have H0:=Lib.hid h0
 clear h hv hb h0
 obtain⟨P0,hP0⟩:∃P:Ending→World→Prop,P=fun e w'=>e= .returned (.tuple #[.slice none 0 0,.int .i64 c])∧Gr w w':=⟨_,rfl⟩
 rw[←hP0]
 have HP0:=Lib.hid hP0
 clear hP0
 go_enter Tryz.func53,Tryz.ntmps53
 go_wp2_with fail
 (try go_step3)
 (try go_wp2_with fail)
 have RB:=Lib.hid (Row.new w #[.slice a ts.length cap] 31)
 refine(all_err ts a cap pn cn c _ (H.out.gr RNod.mono ((Gr.refl _).alloc _)) HV.out HB.out H0.out).mono ?_
 rintro e w1 ⟨rfl,hg1⟩
 have G2:Hid (Gr w w1):=Lib.hid (((Gr.refl _).alloc _).trans hg1)
 clear hg1 RB
 go_wp2_with fail
 rw[HP0.out]
 exact⟨rfl,G2.out⟩
theorem circle_err(ts:Tr)(a:Option Addr)(cap:Nat)(pn cn:St)(c:Int)(w:World)(h:SlOf 3 RNod w a ts)(hv:ts.length≤1000000)(hb:chkT ts=c)(h0:c≠0):
  Calls Tryz.prog 20 #[.agg #[.slice a ts.length cap],.string (bs pn),.string (bs cn)] w fun e w'=>e= .returned (.tuple #[.slice none 0 0,.int .i64 c])∧Gr w w':=by
 have H:=Lib.hid h
 have HV:=Lib.hid hv
 have HB:=Lib.hid hb
 have h120:ts.length≤1000000:=hv
 have c00:(c==0)=false:=by rw[beq_eq_false_iff_ne];exact h0
 have c01:¬c=0:=h0
 have H0:=Lib.hid h0
 clear h hv hb h0
 obtain⟨P0,hP0⟩:∃P:Ending→World→Prop,P=fun e w'=>e= .returned (.tuple #[.slice none 0 0,.int .i64 c])∧Gr w w':=⟨_,rfl⟩
 rw[←hP0]
 have HP0:=Lib.hid hP0
 clear hP0
 go_enter Tryz.func20,Tryz.ntmps20
 go_wp2_with fail
 (try go_step3)
 (try go_wp2_with fail)
 have RB:=Lib.hid (Row.new w #[.slice a ts.length cap] 31)
 refine(graph_err ts a cap pn cn c _ (H.out.gr RNod.mono ((Gr.refl _).alloc _)) HV.out HB.out H0.out).mono ?_
 rintro e w1 ⟨rfl,hg1⟩
 have G2:Hid (Gr w w1):=Lib.hid (((Gr.refl _).alloc _).trans hg1)
 clear hg1 RB
 go_wp2_with fail
 rw[HP0.out]
 exact⟨rfl,G2.out⟩
theorem order_err(ts:Tr)(a:Option Addr)(cap:Nat)(pn cn:St)(c:Int)(w:World)(h:SlOf 3 RNod w a ts)(hv:ts.length≤1000000)(hb:chkT ts=c)(h0:c≠0):
  Calls Tryz.prog 21 #[.agg #[.slice a ts.length cap],.string (bs pn),.string (bs cn)] w fun e w'=>e= .returned (.tuple #[.slice none 0 0,.int .i64 c])∧Gr w w':=by
 have H:=Lib.hid h
 have HV:=Lib.hid hv
 have HB:=Lib.hid hb
 have h120:ts.length≤1000000:=hv
 have c00:(c==0)=false:=by rw[beq_eq_false_iff_ne];exact h0
 have c01:¬c=0:=h0
 have H0:=Lib.hid h0
 clear h hv hb h0
 obtain⟨P0,hP0⟩:∃P:Ending→World→Prop,P=fun e w'=>e= .returned (.tuple #[.slice none 0 0,.int .i64 c])∧Gr w w':=⟨_,rfl⟩
 rw[←hP0]
 have HP0:=Lib.hid hP0
 clear hP0
 go_enter Tryz.func21,Tryz.ntmps21
 go_wp2_with fail
 (try go_step3)
 (try go_wp2_with fail)
 have RB:=Lib.hid (Row.new w #[.slice a ts.length cap] 31)
 refine(graph_err ts a cap pn cn c _ (H.out.gr RNod.mono ((Gr.refl _).alloc _)) HV.out HB.out H0.out).mono ?_
 rintro e w1 ⟨rfl,hg1⟩
 have G2:Hid (Gr w w1):=Lib.hid (((Gr.refl _).alloc _).trans hg1)
 clear hg1 RB
 go_wp2_with fail
 rw[HP0.out]
 exact⟨rfl,G2.out⟩
def ofE(ts:Tr)(k:Int)(pn cn:St):Except Int (List Lnk):=if chkT ts≠0 then .error (chkT ts) else if k<0∨(ts.length:Int)≤k then .error 4 else ofT ts k.toNat pn cn
theorem rOfE_any(ts:Tr)(a:Option Addr)(cap:Nat)(k:Int)(pn cn:St)(w:World)(h:SlOf 3 RNod w a ts)(hf:ts.length≤1000000):
  Calls Tryz.prog 26 #[.agg #[.slice a ts.length cap],.int .i64 k,.string (bs pn),.string (bs cn)] w (GivesLks w (ofE ts k pn cn)):=by
 have H:=Lib.hid h
 obtain⟨c,hc⟩:∃c,chkT ts=c:=⟨_,rfl⟩
 have HC:=Lib.hid hc
 have CK:=rCheck_err ts a cap (c:=c)
 have CK:=Lib.hid (fun w h=>CK w h hf hc)
 obtain⟨R,hR⟩:∃R,ofE ts k pn cn=R:=⟨_,rfl⟩
 have HR:=Lib.hid hR
 rw[hR]
 obtain⟨P0,hP0⟩:∃P:Ending→World→Prop,P=GivesLks w R:=⟨_,rfl⟩
 rw[←hP0]
 have HP0:=Lib.hid hP0
 clear h hc hR hP0
 go_enter Tryz.func26,Tryz.ntmps26
 go_wp2_with fail
 have RB:=Lib.hid (Row.new w #[.slice a ts.length cap] 31)
 obtain⟨W1,hW1⟩:∃W:World,Hid (W=w.alloc (.cells #[.slice a ts.length cap] 31)):=⟨_,Lib.hid rfl⟩
 (try rw[←hW1.out])
 rw[←hW1.out] at RB
 have G1:Hid (Gr w W1):=Lib.hid (by rw[hW1.out];exact(Gr.refl _).alloc _)
 obtain⟨PB,hPB⟩:∃N:Nat,Hid (w.heap.size=N):=⟨_,Lib.hid rfl⟩
 rw[hPB.out] at RB
 (try rw[hPB.out])
 clear hW1 hPB
 refine(CK.out W1 (H.out.gr RNod.mono G1.out)).mono ?_
 rintro e w1 ⟨rfl,hg1⟩
 have G2:=Lib.hid (G1.out.trans hg1)
 have RB2:=Lib.hid (RB.out.gr hg1)
 have x0:=RB2.out.cell 0 (by simp)
 simp only[List.getElem_cons_zero] at x0
 have hx:=has_of_cell x0
 clear hg1 RB G1
 by_cases hc:c=0
 ·subst hc
  by_cases h1:k<0
  ·have RE:Hid (R= .error 4):=Lib.hid (by rw[←HR.out];unfold ofE;rw[if_neg (by rw[HC.out];simp),if_pos (.inl h1)])
   have b1:decide (k<0)=true:=by simpa using h1
   clear HR
   go_wp2_with fail
   rw[HP0.out,RE.out]
   exact⟨rfl,G2.out⟩
  ·by_cases h2:(ts.length:Int)≤k
   ·have RE:Hid (R= .error 4):=Lib.hid (by rw[←HR.out];unfold ofE;rw[if_neg (by rw[HC.out];simp),if_pos (.inr h2)])
    have b1:decide (k<0)=false:=by simpa using h1
    have b2:decide ((ts.length:Int)≤k)=true:=by simpa using h2
    clear HR
    go_wp2_with fail
    rw[HP0.out,RE.out]
    exact⟨rfl,G2.out⟩
   ·obtain⟨i,rfl⟩:∃i:Nat,k=i:=⟨k.toNat,by omega⟩
    have hi:i<ts.length:=by omega
    have RE:Hid (R=ofT ts i pn cn):=Lib.hid (by rw[←HR.out];unfold ofE;rw[if_neg (by rw[HC.out];simp),if_neg (by omega),Int.toNat_natCast])
    have OC:=Lib.hid (rof_C ts a cap i pn cn w1 (H.out.gr RNod.mono G2.out) ⟨HC.out⟩ hi)
    have ki:(i:Int)<ts.length:=by omega
    clear HR h1 h2
    go_wp2_with fail
    refine OC.out.mono ?_
    intro e w2 hgv
    rw[←RE.out] at hgv
    clear OC RE x0 hx
    cases R with
    |error er=>
     obtain⟨rfl,hg2⟩:=hgv
     have G3:=Lib.hid (G2.out.trans hg2)
     clear hg2
     go_wp2_with fail
     rw[HP0.out]
     exact⟨rfl,G3.out⟩
    |ok l=>
     obtain⟨v,lts,rfl,hlk,how,hlr,hg2⟩:=hgv
     obtain⟨la,lc,rfl⟩:=owns_slice how
     have G3:=Lib.hid (G2.out.trans hg2)
     have Z:=Lib.hid (And.intro hlk (And.intro how hlr))
     clear hg2 hlk how hlr
     go_wp2_with fail
     rw[HP0.out]
     exact⟨_,lts,rfl,Z.out.1,owns_low Z.out.2.1 G2.out.size,fun t ht=>⟨owns_low (Z.out.2.2 t ht).1 G2.out.size,(Z.out.2.2 t ht).2⟩,G3.out⟩
 ·have RE:Hid (R= .error c):=Lib.hid (by rw[←HR.out];unfold ofE;rw[if_pos (by rw[HC.out];exact hc),HC.out])
  have c00:(c==0)=false:=by rw[beq_eq_false_iff_ne];exact hc
  clear HR
  go_wp2_with fail
  rw[HP0.out,RE.out]
  exact⟨rfl,G2.out⟩
def allE(ts:Tr)(pn cn:St):Except Int (List Lnk):=if chkT ts≠0 then .error (chkT ts) else allT ts pn cn ts.length
theorem rAllE_any(ts:Tr)(a:Option Addr)(cap:Nat)(pn cn:St)(w:World)(h:SlOf 3 RNod w a ts)(hf:ts.length≤1000000):
  Calls Tryz.prog 13 #[.agg #[.slice a ts.length cap],.string (bs pn),.string (bs cn)] w (GivesLks w (allE ts pn cn)):=by
 unfold allE
 by_cases h0:chkT ts=0
 ·rw[if_neg (by rw[h0];simp)]
  exact rAll_C ts a cap pn cn w h ⟨h0⟩
 ·rw[if_pos h0]
  exact rAll_err ts a cap pn cn (chkT ts) w h hf rfl h0
theorem allE_any(ts:Tr)(a:Option Addr)(cap:Nat)(pn cn:St)(w:World)(h:SlOf 3 RNod w a ts)(hf:ts.length≤1000000):
  Calls Tryz.prog 14 #[.agg #[.slice a ts.length cap],.string (bs pn),.string (bs cn)] w (GivesLks w (allE ts pn cn)):=by
 unfold allE
 by_cases h0:chkT ts=0
 ·rw[if_neg (by rw[h0];simp)]
  exact all_any ts a cap pn cn w h h0
 ·rw[if_pos h0]
  exact all_err ts a cap pn cn (chkT ts) w h hf rfl h0
end Go.Proofs.YtdjhnfopdlgliaaGreat
