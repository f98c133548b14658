/- Lemmas and contracts for the proof of LinkAnswers (several texts in one, printed by wip/tools/pack.py): TfC TfD LqF VeC VeD VeE. -/
import Derived.Test.YtdjhnfopdlgliaaGreatLa1pb
import Derived.Test.YtdjhnfopdlgliaaGreatLa1pp
import Derived.WalkMore
import Derived.Test.YtdjhnfopdlgliaaGreatLa1pe
set_option maxRecDepth 100000
set_option maxHeartbeats 16000000
set_option linter.unusedVariables false
set_option linter.unusedSimpArgs false
namespace Go.Proofs.YtdjhnfopdlgliaaGreat
open Go.RowKit
open Classical
structure CBox(w:World)(d:List Nat)(first at' FB QB AB DB:Nat):Prop where
 f:w.cell? ⟨FB,0,none⟩=some (.int .i64 first)
 q:w.cell? ⟨QB,0,none⟩=some (.slice (some ⟨DB,0,none⟩) d.length d.length)
 a:w.cell? ⟨AB,0,none⟩=some (.int .i64 at')
 row:Row w DB 3 (nums (ci d))
theorem CBox.gr{w w':World}{d:List Nat}{first at' FB QB AB DB:Nat}(h:CBox w d first at' FB QB AB DB)(hg:Gr w w'):CBox w' d first at' FB QB AB DB:=
 ⟨cell_gr hg h.f,cell_gr hg h.q,cell_gr hg h.a,h.row.gr hg⟩
theorem backB_eq(d:List Nat)(first at' y:Nat):backB d first at' (y:Int)=(decide ((first:Int)<(y:Int))&&decide (((d.getD y 0:Nat):Int)=((d.getD at' 0:Nat):Int)-1)):=by
 unfold backB
 rw[Int.toNat_natCast]
 congr 1
 apply decide_eq_decide.2
 omega
theorem cir1_any(d:List Nat)(first at' y FB QB AB DB:Nat)(w:World)(h:CBox w d first at' FB QB AB DB)(hl:d.length≤120)(hm:∀x,d.getD x 0≤120)(hy:y<d.length)(ha:at'<d.length):
  Calls Tryz.prog 108 #[.int .i64 y,.pointer (some ⟨FB,0,none⟩),.pointer (some ⟨QB,0,none⟩),.pointer (some ⟨AB,0,none⟩)] w (Grows w (.bool (backB d first at' (y:Int)))):=by
 have E:=Lib.hid (backB_eq d first at' y)
 obtain⟨c1,c2,c3,hr⟩:=h
 have c4:=row_ci hr y hy
 have c5:=row_ci hr at' ha
 have m1:=hm y
 have m2:=hm at'
 rw[E.out]
 obtain⟨u,hu⟩:∃u,d.getD y 0=u:=⟨_,rfl⟩
 obtain⟨v,hv⟩:∃v,d.getD at' 0=v:=⟨_,rfl⟩
 rw[hu] at c4 m1 ⊢
 rw[hv] at c5 m2 ⊢
 have h1:=has_of_cell c1
 have h2:=has_of_cell c2
 have h3:=has_of_cell c3
 have h4:=has_of_cell c4
 have i1:(y:Int)<d.length:=by omega
 have i2:(at':Int)<d.length:=by omega
 clear hu hv E hm hr
 by_cases q1:first<y
 ·have q1':(first:Int)<(y:Int):=by omega
  go_enter Tryz.func108,Tryz.ntmps108
  go_wp2
  go_quiet (fail)
  go_wp2
  go_ret
  exact⟨ret_bool (by simp only[decide_eq_true q1',Bool.true_and];rfl),by repeat(first|with_reducible exact Gr.refl _|with_reducible refine Gr.drewN _ ?_)⟩
 ·have q1':¬(first:Int)<(y:Int):=by omega
  have q2:decide ((first:Int)<(y:Int))=false:=decide_eq_false q1'
  go_enter Tryz.func108,Tryz.ntmps108
  go_wp2
  go_quiet (fail)
  go_wp2
  go_ret
  exact⟨ret_bool (by rw[q2];rfl),by repeat(first|with_reducible exact Gr.refl _|with_reducible refine Gr.drewN _ ?_)⟩
theorem idxC_any(ys:List Int)(d:List Nat)(first at' FB QB AB DB:Nat)(a:Option Addr)(cap:Nat)(w:World)(h:SlOf 1 RI w a ys)(hf:ys.length≤7680)(hy:∀y∈ys,∃j:Nat,y=j∧j<d.length)(hb:CBox w d first at' FB QB AB DB)(hl:d.length≤120)(hm:∀x,d.getD x 0≤120)(ha:at'<d.length)(z:Int)(hz:ys.find? (backB d first at')=some z):
  Calls Tryz.prog 107 #[.slice a ys.length cap,.func (.func 108) #[] #[.pointer (some ⟨FB,0,none⟩),.pointer (some ⟨QB,0,none⟩),.pointer (some ⟨AB,0,none⟩)]] w fun e w'=>∃k:Nat,e= .returned (.int .i64 k)∧(∃hk:k<ys.length,ys[k]=z)∧Gr w w':=by
 have H:=Lib.hid h
 have HY:=Lib.hid hy
 have HB:=Lib.hid hb
 have HM:=Lib.hid hm
 have HZ:=Lib.hid hz
 clear h hy hb hm hz
 go_enter Tryz.func107,Tryz.ntmps107
 go_wp2_with fail
 go_loopw [8] (fun i wr=>∃k:Nat,k≤ys.length∧i= .int .i64 k∧(∀j (hj:j<k) (hjl:j<ys.length),backB d first at' ys[j]=false)∧Gr w wr) (fun i _=>ys.length-(intOf i).toNat)
 case atStart=>exact⟨0,Nat.zero_le _,rfl,fun j h=>absurd h (by omega),Gr.refl _⟩
 case round=>
  obtain⟨k,hk,rfl,hall,hg⟩:=hrel
  have HA:=Lib.hid hall
  have HG:=Lib.hid hg
  clear hall hg
  by_cases hlt:k<ys.length
  ·obtain⟨b,o,rfl,c0,_⟩:=(H.out.giI HG.out).one k hlt
   obtain⟨y,hyk,hyl⟩:=HY.out ys[k] (List.getElem_mem hlt)
   have HYK:=Lib.hid hyk
   rw[hyk] at c0
   have hh:=has_of_cell c0
   have hc:=cir1_any d first at' y FB QB AB DB wr (HB.out.gr HG.out) hl HM.out hyl ha
   have HC:=Lib.hid hc
   clear hc hyk
   by_cases hv:backB d first at' (y:Int)=true
   ·rw[hv] at HC
    have V:=Lib.hid hv
    clear hv
    go_wp2_with (go_at_call 108;refine HC.out.mono ?_;rintro e w' ⟨rfl,O,dd,rfl⟩)
    go_ret
    refine⟨k,rfl,⟨hlt,?_⟩,HG.out.xt _ _⟩
    obtain⟨hp,l1,l2,hs,hn⟩:=List.find?_eq_some_iff_append.1 HZ.out
    have hp':(backB d first at' z)=true:=by simpa using hp
    have hidx:l1.length=k:=by
     rcases Nat.lt_trichotomy l1.length k with q|q|q
     ·have hl2:l1.length<ys.length:=by omega
      have e:ys[l1.length]=z:=by simp[hs]
      have:=HA.out l1.length q hl2
      rw[e,hp'] at this
      cases this
     ·exact q
     ·have e:ys[k]=l1[k]:=by simp[hs,List.getElem_append_left q]
      have:=hn l1[k] (List.getElem_mem q)
      rw[←e,HYK.out,V.out] at this
      cases this
    subst hidx
    simp[hs]
   ·rw[Bool.not_eq_true] at hv
    rw[hv] at HC
    have V:=Lib.hid hv
    clear hv
    go_wp2_with (go_at_call 108;refine HC.out.mono ?_;rintro e w' ⟨rfl,O,dd,rfl⟩)
    go_roundw
    case rel=>
     refine⟨k+1,by omega,by go_num,fun j hj hjl=>?_,HG.out.xt _ _⟩
     by_cases e:j=k
     ·subst e;rw[HYK.out];exact V.out
     ·exact HA.out j (by omega) hjl
    case measure=>simp[intOf];omega
  ·exfalso
   have hp:=List.find?_some HZ.out
   obtain⟨j,hj,e⟩:=List.getElem_of_mem (List.mem_of_find?_eq_some HZ.out)
   have:=HA.out j (by omega) hj
   rw[e] at this
   simp[this] at hp
theorem circF_stop(gs:List (List Int))(d:List Nat)(first f at':Nat)(out:List Int)(h:¬1<d.getD at' 0):circF gs d first f at' out=out:=by
 cases f with
 |zero=>rfl
 |succ f=>rw[circF,if_neg h]
def GivesC(w:World)(c:List Int)(e:Ending)(w':World):Prop:=
 ∃v,e= .returned v∧w'.ownsRow w.heap.size 3 1 v c.length (nums c)∧(∀z∈c,Wide z)∧Gr w w'
theorem circle_any'(gs:List (List Int))(first GB base:Nat)(vs:List Value)(w:World)(hga:GAt base w GB vs gs)(hin:InG gs.length gs)(hfi:first<gs.length)(hl:gs.length≤120)(hr:∀g∈gs,g.length≤7680):
  Calls Tryz.prog 54 #[.slice (some ⟨GB,0,none⟩) gs.length gs.length,.int .i64 first] w (GivesC w (circT gs first)):=by
 have GA:=Lib.hid hga
 have IG:=Lib.hid hin
 have RW:=Lib.hid hr
 obtain⟨i0,hi,hz0,hz1,hz2⟩:=info_parts infoInt
 clear hga hin hr
 go_enter Tryz.func54,Tryz.ntmps54
 go_wp2_with fail
 refine(dist_any gs first GB base vs _ (GA.out.gr ((Gr.refl _).alloc _)) IG.out hfi hl RW.out).mono ?_
 rintro e w1 ⟨DB,rfl,hrow,hdb,hg⟩
 obtain⟨d,hd⟩:∃d,distT gs first=d:=⟨_,rfl⟩
 have DF:Hid (DFin gs first d):=Lib.hid (by rw[←hd];exact distT_fin gs first)
 have HD:=Lib.hid hd
 rw[hd] at hrow ⊢
 have RD:=Lib.hid hrow
 have HDB:=Lib.hid hdb
 have HG:=Lib.hid hg
 have RF:=Lib.hid ((Row.new w #[.int .i64 first] 3).gr hg)
 have dl:d.length=gs.length:=DF.out.ok.len
 have dm:=DF.out.ok.max first
 have cf:=row_ci hrow first (by rw[dl];exact hfi)
 obtain⟨u,hu⟩:∃u,d.getD first 0=u:=⟨_,rfl⟩
 have HU:=Lib.hid hu
 rw[hu] at cf dm
 have hh1:=has_of_cell cf
 have ef:(first:Int)<d.length:=by omega
 rw[dl] at ef ⊢
 obtain⟨FB,hFB⟩:∃N:Nat,Hid (w.heap.size=N):=⟨_,Lib.hid rfl⟩
 rw[hFB.out] at RF ⊢
 have qf:w1.cell? ⟨FB,0,none⟩=some (.int .i64 first):=RF.out.cell 0 (by simp)
 have hh2:=has_of_cell qf
 clear hd hrow hdb hg dl hu
 rcases Nat.eq_zero_or_pos u with u0|u0
 ·subst u0
  have R:Hid (circT gs first= []):=Lib.hid (by unfold circT;rw[HD.out,if_pos HU.out])
  go_wp2_with fail
  go_ret
  rw[R.out]
  exact⟨_,rfl,World.ownsRow_nil _ _ _ _,fun z h=>by simp at h,((((Gr.refl w).alloc _).trans HG.out).alloc _)⟩
 ·have eu:((u:Int)==0)=false:=by simp;omega
  have R:Hid (circT gs first=circF gs d first gs.length first [(first:Int)]):=Lib.hid (by unfold circT;rw[HD.out,if_neg (by rw[HU.out];omega)])
  go_wp2_with fail
  have RQ:=Lib.hid (Row.new w1 #[.slice (some ⟨DB,0,none⟩) gs.length gs.length] 38)
  obtain⟨W2,hW2⟩:∃W:World,Hid (W=w1.alloc (.cells #[.slice (some ⟨DB,0,none⟩) gs.length gs.length] 38)):=⟨_,Lib.hid rfl⟩
  obtain⟨QB,hQB⟩:∃N:Nat,Hid (w1.heap.size=N):=⟨_,Lib.hid rfl⟩
  have z2:Hid (W2.heap.size=QB+1):=Lib.hid (by rw[hW2.out];simp[hQB.out])
  have RO:=Lib.hid (Row.new W2 #[.int .i64 first] 3)
  have RA:=Lib.hid (Row.new (W2.alloc (.cells #[.int .i64 first] 3)) #[.int .i64 first] 3)
  rw[World.size_alloc,z2.out] at RA
  rw[←hW2.out] at RQ ⊢
  rw[z2.out] at RO
  rw[hQB.out] at RQ ⊢
  have G2:Hid (Gr w1 W2):=Lib.hid (by rw[hW2.out];exact(Gr.refl _).alloc _)
  have GW:Hid (Gr w W2):=Lib.hid (((Gr.refl w).alloc _).trans (HG.out.trans G2.out))
  have B2:Hid (W2.heap.size=QB+1):=z2
  have RF2:=Lib.hid (RF.out.gr G2.out)
  have RD2:=Lib.hid (RD.out.gr G2.out)
  have GA2:=Lib.hid (GA.out.gr GW.out)
  have sw:Hid (w.heap.size≤QB+1):=Lib.hid (by rw[←z2.out];exact GW.out.size)
  have dl:d.length=gs.length:=DF.out.ok.len
  have hU1:Hid (d.getD first 0=u):=HU
  have RO2:=Lib.hid (RO.out.alloc (.cells #[.int .i64 first] 3))
  clear hW2 cf hh1 hh2 qf RO z2
  go_loopg [6,7] gs.length (fun g sl pt wr=>∃(at':Nat) (out:List Int) (AB:Nat),pt= .pointer (some ⟨AB,0,none⟩)∧at'<gs.length∧first≤at'∧1≤d.getD at' 0∧d.getD at' 0≤g∧out.length+d.getD at' 0≤121∧circT gs first=circF gs d first g at' out∧(∀z∈out,Wide z)∧wr.ownsRow (QB+1) 3 1 sl out.length (nums out)∧QB+1≤AB∧sl.ownBlock≠some AB∧Row wr AB 3 [.int .i64 at']∧Gr W2 wr)
  case atStart=>
   refine⟨first,[(first:Int)],QB+1+1,rfl,hfi,Nat.le_refl _,by rw[hU1.out];exact u0,by rw[hU1.out];exact dm,by rw[hU1.out];simp;omega,R.out,fun z h=>by rw[List.mem_singleton.1 h];unfold Wide;omega,?_,by omega,by simp[Value.ownBlock],RA.out,((Gr.refl _).alloc _).alloc _⟩
   exact row_owns (xs:=nums [(first:Int)]) RO2.out (Nat.le_refl _) (by simp[nums]) (by unfold maxLen;simp)
  case round=>
   clear RA RO2
   obtain⟨at',out,AB,rfl,hat,hfa,hd1,hdg,hol,hci,hwd,how,hab,hne,hra,hg⟩:=hrel
   obtain⟨va,vc,rfl⟩:=owns_slice how
   have HCI:=Lib.hid hci
   have WD:=Lib.hid hwd
   have OW:=Lib.hid how
   have NE:=Lib.hid hne
   have RA:=Lib.hid hra
   have HGR:=Lib.hid hg
   have cat:=row_ci (RD2.out.gr hg) at' (by rw[dl];exact hat)
   have qq:wr.cell? ⟨QB,0,none⟩=some (.slice (some ⟨DB,0,none⟩) gs.length gs.length):=(RQ.out.gr hg).cell 0 (by simp)
   have qa:wr.cell? ⟨AB,0,none⟩=some (.int .i64 at'):=hra.cell 0 (by simp)
   have qf:wr.cell? ⟨FB,0,none⟩=some (.int .i64 first):=(RF2.out.gr hg).cell 0 (by simp)
   obtain⟨v,hv⟩:∃v,d.getD at' 0=v:=⟨_,rfl⟩
   have HV:=Lib.hid hv
   rw[hv] at cat hd1 hdg hol
   have k1:=has_of_cell cat
   have k2:=has_of_cell qq
   have k3:=has_of_cell qa
   have k4:=has_of_cell qf
   have ea:(at':Int)<gs.length:=by omega
   have HDG:=Lib.hid hdg
   have HOL:=Lib.hid hol
   clear hci hwd how hne hra hg hv hdg hol
   by_cases h1:1<v
   ·have e1:(1:Int)<v:=by omega
    obtain⟨y,hyz,hym,hyf,hyd⟩:=find_back DF.out hfa hat (by rw[HV.out];exact h1)
    rw[HV.out] at hyd
    obtain⟨ra,rc,hvi,hro⟩:=GA2.out.at hat
    obtain⟨g,hgk⟩:∃g,g=gs[at']:=⟨_,rfl⟩
    have HGK:=Lib.hid hgk
    rw[←hgk] at hvi hro
    have hgd:gs.getD at' []=g:=by rw[List.getD_eq_getElem?_getD,List.getElem?_eq_getElem hat];exact hgk.symm
    have hinn:∀y∈g,∃j:Nat,y=j∧j<gs.length:=IG.out g (by rw[hgk];exact List.getElem_mem hat)
    rw[hgd] at hym hyz
    obtain⟨yn,rfl,hyn⟩:=hinn y hym
    rw[Int.toNat_natCast] at hyd
    have hil:at'<vs.length:=(List.getElem?_eq_some_iff.1 hvi).1
    have gk0:wr.cell? ⟨GB,at',none⟩=some (.slice ra g.length rc):=by rw[(GA2.out.gr HGR.out).row.cell at' hil];exact congrArg some (List.getElem?_eq_some_iff.1 hvi).2
    have hgw:∀z∈g,Wide z:=fun z hz=>by obtain⟨j,rfl,hj⟩:=hinn z hz;unfold Wide;omega
    obtain⟨ra',rc',e',_,hsl⟩:=ints_at hro hgw
    cases e'
    have hgl:g.length≤7680:=RW.out g (by rw[hgk];exact List.getElem_mem hat)
    have k5:=has_of_cell gk0
    have SL:=Lib.hid hsl
    have HC:=Lib.hid (idxC_any g d first at' FB QB AB DB ra rc wr (hsl.giI HGR.out) hgl (by rw[dl];exact hinn) ⟨qf,by rw[dl];exact qq,qa,RD2.out.gr HGR.out⟩ (by rw[dl];exact hl) (fun x=>Nat.le_trans (DF.out.ok.max x) hl) (by rw[dl];exact hat) _ hyz)
    obtain⟨g1,hg1⟩:∃g1,gk=g1+1:=⟨gk-1,by have:=HDG.out;omega⟩
    have HG1:=Lib.hid hg1
    have NX:Hid (circT gs first=circF gs d first g1 yn (out++ [(yn:Int)])):=Lib.hid (by rw[HCI.out,hg1,circF,if_pos (by rw[HV.out];exact h1),hgd,hyz];simp)
    have HYF:=Lib.hid hyf
    have HYD:=Lib.hid hyd
    have hyi:(yn:Int)<gs.length:=by omega
    clear hg1 hyf hyd hyz hym hvi hro hgk hgd hinn hil hgw hsl
    go_wp2_with (first
     |(go_at_call 107;refine HC.out.mono ?_;rintro e w6 ⟨k,rfl,hkx,hg6⟩;obtain⟨hk,hky⟩:=hkx;have G6:=Lib.hid (HGR.out.trans hg6);obtain⟨xb,xo,rfl,c6,_⟩:=(SL.out.giI G6.out).one k hk;rw[hky] at c6;have c7:=cell_gr hg6 gk0;have c8:=cell_gr hg6 qa;have k6:=has_of_cell c6;have k7:=has_of_cell c7;have k8:=has_of_cell c8;have hk2:(k:Int)<g.length:=(by omega);have OWX:=Lib.hid ((Gr.owns OW.out (hg6)).alloc (.cells #[.int .i64 yn] 3));have RA6:=Lib.hid ((RA.out.gr hg6).alloc (.cells #[.int .i64 yn] 3));have NR:=Lib.hid (row_cells (Row.new w6 #[.int .i64 yn] 3));have hs6:QB+1≤w6.heap.size:=(by rw[←B2.out];exact G6.out.size);have GX:=Lib.hid (G6.out.alloc (.cells #[.int .i64 yn] 3));clear hg6 hky)
     |(at_builtin;refine wpList_append_own _ rfl _ _ 38 rfl (QB+1) 3 i0 (.int .i64 0) 1 8 Tryz.underlying38 hi hz0 hz1 hz2 rfl (by decide) (.slice va out.length vc) out.length (nums out) rfl OWX.out ⟨w6.heap.size,0,none⟩ 1 1 [.int .i64 yn] rfl rfl NR.out (by intro u hu;simp at hu;rw[hu];rfl) (by unfold maxLen;have:=HOL.out;omega) (by have:=HOL.out;omega) (by simp;omega) ?_;intro v' wz hown' hgrow hnil;have HGz:=Lib.hid hgrow;obtain⟨gz,cz,rfl,hcz,hgb,hcc⟩:=owns_cell hown' (by omega);have HOz:=Lib.hid hown';have c9:wz.cell? ⟨gz,out.length,none⟩=some (.int .i64 yn):=(by rw[hcc out.length (by omega)];simp[nums]);have RAz:=Lib.hid (RA6.out.kept HGz.out (fun e=>NE.out e.symm));have c10:wz.cell? ⟨AB,0,none⟩=some (.int .i64 at'):=RAz.out.cell 0 (by simp);have k9:=has_of_cell c9;have k10:=has_of_cell c10;have hlx:(out.length:Int)<122:=(by have:=HOL.out;omega);clear hown' hgrow hnil hcc))
    have GZ:Gr W2 wz:=GX.out.grown HGz.out (fun j e=>by rw[B2.out];exact(OWX.out.lt j e).1)
    have hown:wz.ownsRow (QB+1) 3 1 (.slice (some ⟨gz,0,none⟩) (out.length+1) cz) (out++ [(yn:Int)]).length (nums (out++ [(yn:Int)])):=by
     have:=HOz.out
     rw[List.length_append]
     simpa [nums] using this
    go_roundg g1
    case measure=>have:=HG1.out;omega
    case rel=>
     have y1:=HYD.out
     have y2:=HYF.out
     refine⟨yn,out++ [(yn:Int)],wz.heap.size,rfl,hyn,by omega,by omega,by have:=HDG.out;have:=HG1.out;omega,by rw[List.length_append];have:=HOL.out;simp only[List.length_cons,List.length_nil];omega,NX.out,?_,hown.alloc _,?_,?_,Row.new wz #[.int .i64 yn] 3,GZ.alloc _⟩
     ·intro z hz
      rcases List.mem_append.1 hz with q|q
      ·exact WD.out z q
      ·rw[List.mem_singleton.1 q];unfold Wide;omega
     ·rw[←B2.out];exact GZ.size
     ·intro e
      have:=(hown.lt _ e).2
      omega
   ·have e1:¬(1:Int)<v:=by omega
    have RR:Hid (circT gs first=out):=Lib.hid (by rw[HCI.out,circF_stop _ _ _ _ _ _ (by rw[HV.out];exact h1)])
    go_wp2_with fail
    go_ret
    rw[RR.out]
    exact⟨_,rfl,owns_low OW.out sw.out,WD.out,GW.out.trans HGR.out⟩
theorem bestT_snoc(gs:List (List Int))(m:Nat):(List.range (m+1)).foldl (bestF gs) []=bestF gs ((List.range m).foldl (bestF gs) []) m:=by
 rw[List.range_succ,List.foldl_append];rfl
theorem circF_len(gs:List (List Int))(d:List Nat)(first:Nat):∀(f at':Nat) (out:List Int),(circF gs d first f at' out).length≤out.length+f
 |0,_,out=>Nat.le_refl _
 |f+1,at',out=>by
  rw[circF]
  split
  ·split
   ·have:=circF_len gs d first f (Int.toNat ‹Int›) (out++ [‹Int›])
    rw[List.length_append] at this
    simp only[List.length_cons,List.length_nil] at this
    omega
   ·omega
  ·omega
theorem circT_len(gs:List (List Int))(first:Nat):(circT gs first).length≤gs.length+1:=by
 unfold circT
 split
 ·simp
 ·have:=circF_len gs (distT gs first) first gs.length first [(first:Int)]
  simp only[List.length_cons,List.length_nil] at this
  omega
theorem circleT_any(ts:Tr)(a:Option Addr)(cap:Nat)(pn cn:St)(w:World)(h:SlOf 3 RNod w a ts)(hc:chkT ts=0):
  Calls Tryz.prog 20 #[.agg #[.slice a ts.length cap],.string (bs pn),.string (bs cn)] w (GivesI w (circleT ts pn cn)):=by
 have H:=Lib.hid h
 have C:=Lib.hid hc
 have h120:=(good_of hc).len.2
 clear h hc
 go_enter Tryz.func20,Tryz.ntmps20
 go_wp2_with fail
 (try go_step3)
 (try go_wp2_with fail)
 refine(graph_any ts a cap pn cn _ (H.out.gr RNod.mono ((Gr.refl _).alloc _)) C.out).mono ?_
 intro e w1 hgv
 cases hz:graphT ts pn cn with
 |error er=>
  rw[hz] at hgv
  have er2:Hid (circleT ts pn cn= .error er):=Lib.hid (by unfold circleT;rw[hz])
  have eb:(er !=0)=true:=by rw[bne_iff_ne];have:=graphT_err hz;omega
  obtain⟨rfl,hg⟩:=hgv
  have G2:Hid (Gr w w1):=Lib.hid (((Gr.refl _).alloc _).trans hg)
  clear hg hz
  go_wp2_with fail
  refine bodyPost_ret (v:= .tuple #[.slice none 0 0,.int .i64 er]) (by simp[results,Tryz.results20,go_sem]) rfl ?_
  rw[er2.out]
  exact⟨rfl,G2.out⟩
 |ok gs=>
  rw[hz] at hgv
  have OE:Hid (circleT ts pn cn= .ok (bestT gs)):=Lib.hid (by unfold circleT;rw[hz])
  have gl:gs.length≤120:=by rw[(graph_in hz).2];exact h120
  have IG:Hid (InG gs.length gs):=Lib.hid (by rw[(graph_in hz).2];exact(graph_in hz).1)
  have RW:=Lib.hid (graph_row (good_of C.out) hz)
  obtain⟨GB,vs,rfl,hga,hgb,hg⟩:=hgv
  have G2:Hid (Gr w w1):=Lib.hid (((Gr.refl _).alloc _).trans hg)
  have GA:=Lib.hid hga
  clear hg hz hga hgb
  go_wp2_with fail
  (try go_step3)
  (try go_wp2_with fail)
  go_loopw [10,25] (fun sl i wr=>∃k:Nat,k≤gs.length∧i= .int .i64 k∧∃b:List Int,Hid (b=(List.range k).foldl (bestF gs) [])∧wr.ownsRow w.heap.size 3 1 sl b.length (nums b)∧(∀z∈b,Wide z)∧b.length≤121∧Gr w1 wr) (fun _ i _=>gs.length-(intOf i).toNat)
  case atStart=>exact⟨0,Nat.zero_le _,rfl,[],Lib.hid rfl,World.ownsRow_nil _ _ _ _,fun z h=>by simp at h,by simp,Gr.refl _⟩
  case round=>
   obtain⟨k,hk,rfl,b,HB,how,hwd,hbl,hg⟩:=hrel
   obtain⟨va,vc,rfl⟩:=owns_slice how
   have OB:=Lib.hid how
   have WB:=Lib.hid hwd
   have HG:=Lib.hid hg
   clear how hwd hg
   by_cases hlt:k<gs.length
   ·have hlt2:(k:Int)<gs.length:=by omega
    obtain⟨c,hc⟩:∃c,circT gs k=c:=⟨_,rfl⟩
    have HC:=Lib.hid hc
    have hcl:c.length≤121:=by rw[←hc];have:=circT_len gs k;omega
    have CC:=Lib.hid (circle_any' gs k GB _ vs wr (GA.out.gr HG.out) IG.out hlt gl RW.out)
    rw[hc] at CC
    have gk0:wr.cell? ⟨GB,0,none⟩=wr.cell? ⟨GB,0,none⟩:=rfl
    clear hc gk0
    go_wp2_with fail
    refine CC.out.mono ?_
    rintro e w6 ⟨v,rfl,hoc,hwc,hg6⟩
    obtain⟨ca,cc,rfl⟩:=owns_slice hoc
    have OC:=Lib.hid hoc
    have WC:=Lib.hid hwc
    have G6:=Lib.hid hg6
    clear hoc hwc hg6
    rcases Nat.eq_zero_or_pos c.length with m0|m0
    ·have e1:decide ((0:Int)<(c.length:Int))=false:=decide_eq_false (by omega)
     have e2:¬(0:Int)<(c.length:Int):=by omega
     have KE:Hid ((List.range (k+1)).foldl (bestF gs) []=b):=Lib.hid (by rw[bestT_snoc,←HB.out];unfold bestF;rw[HC.out,show betterB b c=false by unfold betterB;rw[decide_eq_false (show¬0<c.length by omega)];rfl];rfl)
     go_wp2_with fail
     all_goals go_roundw
     case rel=>exact⟨k+1,by omega,by go_num,b,Lib.hid KE.out.symm,Gr.owns OB.out G6.out,WB.out,by omega,HG.out.trans G6.out⟩
     case measure=>simp[intOf];omega
    ·have e1:decide ((0:Int)<(c.length:Int))=true:=decide_eq_true (by omega)
     have e2:(0:Int)<(c.length:Int):=by omega
     rcases Nat.eq_zero_or_pos b.length with n0|n0
     ·have e3:((b.length:Int)==0)=true:=by rw[beq_iff_eq];omega
      have KE:Hid ((List.range (k+1)).foldl (bestF gs) []=c):=Lib.hid (by rw[bestT_snoc,←HB.out];unfold bestF;rw[HC.out,show betterB b c=true by unfold betterB;rw[decide_eq_true m0,decide_eq_true n0];rfl];rfl)
      go_wp2_with fail
      all_goals go_roundw
      case rel=>exact⟨k+1,by omega,by go_num,c,Lib.hid KE.out.symm,owns_low OC.out (G2.out.trans HG.out).size,WC.out,by omega,HG.out.trans G6.out⟩
      case measure=>simp[intOf];omega
     ·have e3:((b.length:Int)==0)=false:=by rw[beq_eq_false_iff_ne];omega
      by_cases q:c.length<b.length
      ·have e4:(c.length:Int)<b.length:=by omega
       have e5:decide ((c.length:Int)<b.length)=true:=decide_eq_true (by omega)
       have KE:Hid ((List.range (k+1)).foldl (bestF gs) []=c):=Lib.hid (by rw[bestT_snoc,←HB.out];unfold bestF;rw[HC.out,show betterB b c=true by unfold betterB;rw[decide_eq_true m0,decide_eq_false (show¬b.length=0 by omega),decide_eq_true q];rfl];rfl)
       go_wp2_with fail
       all_goals go_roundw
       case rel=>exact⟨k+1,by omega,by go_num,c,Lib.hid KE.out.symm,owns_low OC.out (G2.out.trans HG.out).size,WC.out,by omega,HG.out.trans G6.out⟩
       case measure=>simp[intOf];omega
      ·have e4:¬(c.length:Int)<b.length:=by omega
       have e5:decide ((c.length:Int)<b.length)=false:=decide_eq_false (by omega)
       have KE:Hid ((List.range (k+1)).foldl (bestF gs) []=b):=Lib.hid (by rw[bestT_snoc,←HB.out];unfold bestF;rw[HC.out,show betterB b c=false by unfold betterB;rw[decide_eq_true m0,decide_eq_false (show¬b.length=0 by omega),decide_eq_false q];rfl];rfl)
       go_wp2_with fail
       all_goals go_roundw
       case rel=>exact⟨k+1,by omega,by go_num,b,Lib.hid KE.out.symm,Gr.owns OB.out G6.out,WB.out,by omega,HG.out.trans G6.out⟩
       case measure=>simp[intOf];omega
   ·have hkk:k=gs.length:=by omega
    have R:Hid (circleT ts pn cn= .ok b):=Lib.hid (by rw[OE.out,HB.out,hkk];rfl)
    clear hkk
    go_wp2_with fail
    (try rw[Exit.noGoto_ret])
    refine bodyPost_ret (v:= .tuple #[.slice va b.length vc,.int .i64 0]) (by simp[results,Tryz.results20,go_sem]) rfl ?_
    rw[R.out]
    exact⟨_,rfl,OB.out,WB.out,G2.out.trans HG.out⟩
theorem named_bad{ts:Tr}{i:Nat}(hi:i<ts.length)(h:nodNm i ts[i]=false):namedT ts=false:=by
 unfold namedT
 rw[List.all_eq_false]
 refine⟨i,List.mem_range.2 hi,?_⟩
 rw[show ts.getD i default=ts[i] from nd_get hi,h]
 simp
theorem named_good{ts:Tr}(h:∀j (hj:j<ts.length),nodNm j ts[j]=true):namedT ts=true:=by
 unfold namedT
 rw[List.all_eq_true]
 intro j hj
 have hj:=List.mem_range.1 hj
 rw[show ts.getD j default=ts[j] from nd_get hj]
 exact h j hj
theorem nodNm_hd{i:Nat}{n:Nod}(h:hdrN i n=false):nodNm i n=false:=by rw[nodNm_eq,h];rfl
theorem nodNm_bad{i:Nat}{n:Nod}{m:Nat}(hm:m<n.props.length)(h:propOk n.props[m].name=false):nodNm i n=false:=by
 rw[nodNm_eq]
 have:n.props.all (fun p=>propOk p.name)=false:=List.all_eq_false.2 ⟨_,List.getElem_mem hm,by rw[h];simp⟩
 rw[this,Bool.and_false]
theorem nodNm_good{i:Nat}{n:Nod}(h:hdrN i n=true)(hp:∀j (hj:j<n.props.length),propOk n.props[j].name=true):nodNm i n=true:=by
 rw[nodNm_eq,h,Bool.true_and,List.all_eq_true]
 intro p hpm
 obtain⟨j,hj,rfl⟩:=List.getElem_of_mem hpm
 exact hp j hj
theorem hdN_ways(k:Nat)(n:Nod):(k=0∧n.parent≠ -1∧hdrN k n=false)∨(k=0∧n.parent= -1∧n.name≠ []∧hdrN k n=false)∨(0<k∧n.parent<0∧hdrN k n=false)∨(0<k∧0≤n.parent∧(k:Int)≤n.parent∧hdrN k n=false)∨(k=0∧n.parent= -1∧n.name= []∧hdrN k n=true)∨(0<k∧0≤n.parent∧n.parent<k∧hdrN k n=nameOk n.name):=by
 unfold hdrN
 by_cases h0:k=0
 ·rw[if_pos h0]
  by_cases h1:n.parent= -1
  ·by_cases h2:n.name= []
   ·exact .inr (.inr (.inr (.inr (.inl ⟨h0,h1,h2,by rw[h1,h2];rfl⟩))))
   ·exact .inr (.inl ⟨h0,h1,h2,by rw[show decide (n.name= [])=false by simpa using h2,Bool.and_false]⟩)
  ·exact .inl ⟨h0,h1,by rw[show decide (n.parent= -1)=false by simpa using h1];rfl⟩
 ·rw[if_neg h0]
  have hk:0<k:=by omega
  by_cases h1:n.parent<0
  ·exact .inr (.inr (.inl ⟨hk,h1,by rw[show decide (0≤n.parent)=false by simp;omega];rfl⟩))
  ·by_cases h2:n.parent<k
   ·exact .inr (.inr (.inr (.inr (.inr ⟨hk,by omega,h2,by rw[show decide (0≤n.parent)=true by simp;omega,show decide (n.parent<k)=true by simpa using h2];rfl⟩))))
   ·exact .inr (.inr (.inr (.inl ⟨hk,by omega,by omega,by rw[show decide (n.parent<k)=false by simp;omega,Bool.and_false];rfl⟩)))
theorem names_any(ts:Tr)(a:Option Addr)(cap:Nat)(w:World)(h:SlOf 3 RNod w a ts)(hl:ts.length≤120)(hpl:∀n∈ts,n.props.length≤24):
  Calls Tryz.prog 94 #[.agg #[.slice a ts.length cap]] w (Grows w (.bool (namedT ts))):=by
 have H:=Lib.hid h
 have HPL:=Lib.hid hpl
 obtain⟨v,hv⟩:∃v,namedT ts=v:=⟨_,rfl⟩
 have HV:=Lib.hid hv
 rw[hv]
 clear h hv hpl
 go_enter Tryz.func94,Tryz.ntmps94
 go_wp2_with fail
 go_loopw [10] (fun i wr=>∃k:Nat,k≤ts.length∧i= .int .i64 k∧(∀j (hj:j<ts.length),j<k→nodNm j ts[j]=true)∧Gr w wr) (fun i _=>ts.length-(intOf i).toNat)
 case atStart=>exact⟨0,Nat.zero_le _,rfl,fun j _ h=>by omega,(Gr.refl _).alloc _⟩
 case round=>
  obtain⟨k,hk,rfl,ha,hg⟩:=hrel
  have HG:=Lib.hid hg
  have HA:=Lib.hid ha
  clear hg ha
  by_cases hlt:k<ts.length
  ·obtain⟨b,o,pa,pc,rfl,c0,c1,c2,hps,hpf,hw,hnl⟩:=nods_at (H.out.gr RNod.mono HG.out) k hlt
   have n24:=HPL.out _ (List.getElem_mem hlt)
   have BAD:=Lib.hid (fun(q:nodNm k ts[k]=false)=>(show v=false by rw[←HV.out];exact named_bad hlt q))
   have NXT:=Lib.hid (fun(q:nodNm k ts[k]=true)=>(fun j (hj:j<ts.length) (hjk:j<k+1)=>(show nodNm j ts[j]=true by
    by_cases e:j=k
    ·subst e;exact q
    ·exact HA.out j hj (by omega))))
   obtain⟨n,hn⟩:∃n,ts[k]=n:=⟨_,rfl⟩
   rw[hn] at c0 c1 c2 hps n24 BAD NXT
   have HPS:=Lib.hid hps
   have hh:=has_of_cell c0
   have HLT:=Lib.hid hlt
   have kn:(k:Int)<ts.length:=by omega
   clear hn hps hpf hw hnl hlt hk
   rcases hdN_ways k n with⟨k0,q1,q3⟩|⟨k0,q1,q2,q3⟩|⟨k0,q1,q3⟩|⟨k0,q1,q2,q3⟩|⟨k0,q1,q2,q3⟩|⟨k0,q1,q2,q3⟩
   ·
    have kb:((k:Int)==0)=true:=by simp[k0]
    have p0:(n.parent== -1)=false:=by rw[beq_eq_false_iff_ne];exact q1
    have p1:¬n.parent= -1:=q1
    have V:Hid (v=false):=Lib.hid (BAD.out (nodNm_hd q3))
    clear k0 q1 q3
    go_wp2_with fail
    go_ret
    exact⟨ret_bool (by rw[V.out]),by first|exact HG.out.alloc _|exact HG.out⟩
   ·
    have kb:((k:Int)==0)=true:=by simp[k0]
    obtain⟨xc,xt,ex⟩:∃x t,n.name=x::t:=by
     cases e:n.name with
     |nil=>exact absurd e q2
     |cons x t=>exact⟨x,t,rfl⟩
    rw[ex] at c1
    have V:Hid (v=false):=Lib.hid (BAD.out (nodNm_hd q3))
    rw[q1] at c0
    clear k0 q1 q2 q3 ex
    go_wp2_with fail
    go_ret
    exact⟨ret_bool (by rw[V.out]),by first|exact HG.out.alloc _|exact HG.out⟩
   ·
    have kb:((k:Int)==0)=false:=by rw[beq_eq_false_iff_ne];omega
    have kg:decide (0<k)=true:=by simpa using k0
    have p0:decide (n.parent<0)=true:=by simpa using q1
    have V:Hid (v=false):=Lib.hid (BAD.out (nodNm_hd q3))
    clear k0 q1 q3
    go_wp2_with fail
    go_ret
    exact⟨ret_bool (by rw[V.out]),by first|exact HG.out.alloc _|exact HG.out⟩
   ·
    have kb:((k:Int)==0)=false:=by rw[beq_eq_false_iff_ne];omega
    have kg:decide (0<k)=true:=by simpa using k0
    have p0:decide (n.parent<0)=false:=by simp;omega
    have p1:decide ((k:Int)≤n.parent)=true:=by simpa using q2
    have V:Hid (v=false):=Lib.hid (BAD.out (nodNm_hd q3))
    clear k0 q1 q2 q3
    go_wp2_with fail
    go_ret
    exact⟨ret_bool (by rw[V.out]),by first|exact HG.out.alloc _|exact HG.out⟩
   case' inr.inr.inr.inr.inl=>
    have kb:((k:Int)==0)=true:=by simp[k0]
    have kg:decide (0<k)=false:=by simp[k0]
    have HD:=Lib.hid q3
    rw[q1] at c0
    rw[q2] at c1
    clear k0 q1 q2 q3
    go_wp2_with fail
   case' inr.inr.inr.inr.inr=>
    have kb:((k:Int)==0)=false:=by rw[beq_eq_false_iff_ne];omega
    have kg:decide (0<k)=true:=by simpa using k0
    have p0:decide (n.parent<0)=false:=by simp;omega
    have p1:decide ((k:Int)≤n.parent)=false:=by simp;omega
    cases hnm:nameOk n.name
    case false=>
     have V:Hid (v=false):=Lib.hid (BAD.out (nodNm_hd (by rw[q3,hnm])))
     have Q3:=Lib.hid hnm
     clear k0 q1 q2 q3 hnm
     go_wp2_with (go_at_call 119;refine(refName_any _ _).mono ?_;rintro e w' ⟨rfl,rfl⟩;rw[Q3.out])
     go_ret
     exact⟨ret_bool (by rw[V.out]),by first|exact HG.out.alloc _|exact HG.out⟩
    case' true=>
     have HD:Hid (hdrN k n=true):=Lib.hid (by rw[q3,hnm])
     have Q3:=Lib.hid hnm
     clear k0 q1 q2 q3 hnm
     go_wp2_with (go_at_call 119;refine(refName_any _ _).mono ?_;rintro e w' ⟨rfl,rfl⟩;rw[Q3.out])
   all_goals
    obtain⟨w5,hw5⟩:∃wo,wo=wr:=⟨_,rfl⟩
    rw[←hw5] at HG HPS
    go_loopw [51] (fun i wr=>∃m:Nat,m≤n.props.length∧i= .int .i64 m∧(∀j (hj:j<n.props.length),j<m→propOk n.props[j].name=true)∧Gr w5 wr) (fun i _=>n.props.length-(intOf i).toNat)
    case atStart=>exact⟨0,Nat.zero_le _,rfl,fun j _ h=>by omega,by rw[hw5];exact(Gr.refl _).alloc _⟩
    case round=>
     clear hw5
     obtain⟨m,hm,rfl,hp,hg⟩:=hrel
     have HJ:=Lib.hid hg
     have HP:=Lib.hid hp
     clear hg hp
     by_cases hml:m<n.props.length
     ·obtain⟨b2,o2,rfl,d0,d1,l0,l1⟩:=prps_at (HPS.out.gr RPrp.mono HJ.out) m hml
      have BADP:=Lib.hid (fun(q:propOk n.props[m].name=false)=>BAD.out (nodNm_bad hml q))
      have NXP:=Lib.hid (fun(q:propOk n.props[m].name=true)=>(fun j (hj:j<n.props.length) (hjk:j<m+1)=>(show propOk n.props[j].name=true by
       by_cases e:j=m
       ·subst e;exact q
       ·exact HP.out j hj (by omega))))
      have hh2:=has_of_cell d0
      have HML:=Lib.hid hml
      have mn:(m:Int)<n.props.length:=by omega
      obtain⟨q,hq⟩:∃q,n.props[m]'hml=q:=⟨_,rfl⟩
      rw[hq] at d0 d1 BADP NXP
      clear hq l0 l1 hml hm
      cases hpo:propOk q.name with
      |false=>
       have V:Hid (v=false):=Lib.hid (BADP.out hpo)
       have Q3:=Lib.hid hpo
       clear hpo
       go_wp2_with (go_at_call 120;refine(refProp_any _ _).mono ?_;rintro e w' ⟨rfl,rfl⟩;rw[Q3.out])
       go_ret
       exact⟨ret_bool (by rw[V.out]),HG.out.trans (by first|exact HJ.out.alloc _|exact HJ.out)⟩
      |true=>
       have Q3:=Lib.hid hpo
       clear hpo
       go_wp2_with (go_at_call 120;refine(refProp_any _ _).mono ?_;rintro e w' ⟨rfl,rfl⟩;rw[Q3.out])
       go_roundw
       case rel=>exact⟨m+1,by have:=HML.out;omega,by go_num,NXP.out Q3.out,HJ.out.alloc _⟩
       case measure=>simp[intOf];have:=HML.out;omega
     ·have AL:Hid (nodNm k n=true):=Lib.hid (nodNm_good HD.out (fun j hj=>HP.out j hj (by omega)))
      have mn:¬(m:Int)<n.props.length:=by omega
      clear hml hm
      go_wp2_with fail
      go_roundw
      case rel=>exact⟨k+1,by have:=HLT.out;omega,by go_num,NXT.out AL.out,HG.out.trans HJ.out⟩
      case measure=>simp[intOf];have:=HLT.out;omega
  ·have V:Hid (v=true):=Lib.hid (by rw[←HV.out];exact named_good (fun j hj=>HA.out j hj (by omega)))
   have kn:¬(k:Int)<ts.length:=by omega
   clear hlt hk
   go_wp2_with fail
   go_ret
   exact⟨ret_bool (by rw[V.out]),HG.out⟩
theorem lt_len{n:Nat}:∀{l:List Nat},l.Nodup→(∀x∈l,x<n)→l.length≤n:=by
 induction n with
 |zero=>intro l _ h;cases l with
  |nil=>simp
  |cons a l=>have:=h a (by simp);omega
 |succ n ih=>
  intro l hn h
  have h1:=ih (l:=l.erase n) (hn.erase n) (fun x hx=>by
   have h2:=(hn.mem_erase_iff).1 hx
   have:=h x h2.2
   have:=h2.1
   omega)
  have h3:l.length≤(l.erase n).length+1:=by rw[List.length_erase];split<;>omega
  omega
theorem insC_perm(nm:Nat→St)(cs:List Nat)(i:Nat):(insC nm cs i).Perm (i::cs):=by
 unfold insC
 have:=List.perm_middle (a:=i) (l₁:=cs.takeWhile (fun c=>!ltS (nm i) (nm c))) (l₂:=cs.dropWhile (fun c=>!ltS (nm i) (nm c)))
 rwa [List.takeWhile_append_dropWhile] at this
theorem chl_nodup(q:Nat→Nat)(nm:Nat→St)(x:Nat):∀m,(chl q nm x m).Nodup
 |0=>List.nodup_nil
 |m+1=>by
  rw[chl]
  split
  ·rw[(insC_perm nm _ m).nodup_iff,List.nodup_cons]
   exact⟨fun h=>by have:=((mem_chl m).1 h).1;omega,chl_nodup q nm x m⟩
  ·exact chl_nodup q nm x m
theorem walkF_lt{n:Nat}{q:Nat→Nat}{nm:Nat→St}:∀f x,x<n→∀j∈walkF n q nm f x,j<n
 |0,x,hx,j,h=>by rw[walkF,List.mem_singleton] at h;subst h;exact hx
 |f+1,x,hx,j,h=>by
  rw[walkF] at h
  rcases List.mem_cons.1 h with rfl|h
  ·exact hx
  ·obtain⟨c,hc,h⟩:=List.mem_flatMap.1 h
   exact walkF_lt f c ((mem_chl n).1 hc).1 j h
theorem walkF_nodup{n:Nat}{q:Nat→Nat}{nm:Nat→St}(hp:∀i,0<i→i<n→q i<i):∀f x,x<n→(walkF n q nm f x).Nodup
 |0,x,_=>by rw[walkF];simp
 |f+1,x,hx=>by
  rw[walkF,List.nodup_cons]
  refine⟨fun h=>?_,?_⟩
  ·obtain⟨c,hc,h⟩:=List.mem_flatMap.1 h
   obtain⟨h1,h2,h3⟩:=(mem_chl n).1 hc
   have:=anc_le hp (walkF_anc f c x h) hx
   have:=hp c (by omega) h1
   omega
  ·rw[List.Nodup,List.pairwise_flatMap]
   refine⟨fun c hc=>walkF_nodup hp f c ((mem_chl n).1 hc).1,?_⟩
   refine List.Pairwise.imp_of_mem ?_ (chl_nodup q nm x n)
   intro c d hc hd hne y hy z hz e
   subst e
   obtain⟨c1,c2,c3⟩:=(mem_chl n).1 hc
   obtain⟨d1,d2,d3⟩:=(mem_chl n).1 hd
   have pc:=hp c (by omega) c1
   have pd:=hp d (by omega) d1
   rcases anc_comp (walkF_anc f c y hy) (walkF_anc f d y hz) with k|k
   ·have:=anc_le hp (anc_q k (fun e=>hne e.symm)).1 (by omega)
    omega
   ·have:=anc_le hp (anc_q k hne).1 (by omega)
    omega
theorem walkF_len{n:Nat}{q:Nat→Nat}{nm:Nat→St}(hp:∀i,0<i→i<n→q i<i)(f x:Nat)(hx:x<n):(walkF n q nm f x).length≤n:=
 lt_len (walkF_nodup hp f x hx) (walkF_lt f x hx)
theorem walkF_has{n:Nat}{q:Nat→Nat}{nm:Nat→St}(hp:∀i,0<i→i<n→q i<i):∀j,j<n→∀f,n≤f→j∈walkF n q nm f 0:=by
 -- each node lies in the walk of each of its ancestors
 have key:∀f x j,n≤f+x→x<n→j<n→Anc q x j→j∈walkF n q nm f x:=by
  intro f
  induction f with
  |zero=>intro x j h1 h2;omega
  |succ f ih=>
   intro x j h1 h2 h3 h4
   rw[walkF]
   by_cases e:j=x
   ·rw[e];exact List.mem_cons_self ..
   ·refine List.mem_cons_of_mem _ (List.mem_flatMap.2 ?_)
    -- the child of x above j
    have ch:∀j,j<n→Anc q x j→j≠x→∃c,c<n∧c≠0∧q c=x∧Anc q c j:=by
     intro j
     induction j using Nat.strongRecOn with
     |_ j ihj=>
      intro hj ha hne
      obtain⟨a1,a2⟩:=anc_q ha hne
      have:=hp j a2 hj
      by_cases e2:q j=x
      ·exact⟨j,hj,by omega,e2,.refl⟩
      ·obtain⟨c,k1,k2,k3,k4⟩:=ihj (q j) this (by omega) a1 e2
       exact⟨c,k1,k2,k3,.up a2 k4⟩
    obtain⟨c,k1,k2,k3,k4⟩:=ch j h3 h4 e
    have:=hp c (by omega) k1
    exact⟨c,(mem_chl n).2 ⟨k1,k2,k3⟩,ih c j (by omega) k1 h3 k4⟩
 intro j hj f hf
 refine key f 0 j (by omega) (by omega) hj ?_
 induction j using Nat.strongRecOn with
 |_ j ih=>
  by_cases h0:j=0
  ·rw[h0];exact .refl
  ·have:=hp j (by omega) hj
   exact .up (by omega) (ih (q j) this (by omega))
theorem walk_ext{n:Nat}{q:Nat→Nat}{nm:Nat→St}(hp:∀i,0<i→i<n→q i<i)(h0:0<n)(h:∀i (hi:i<(walkF n q nm n 0).length),(walkF n q nm n 0)[i]=i):walkF n q nm n 0=List.range n:=by
 have hl:(walkF n q nm n 0).length=n:=by
  have h1:=walkF_len (nm:=nm) hp n 0 h0
  obtain⟨i,hi,e⟩:=List.getElem_of_mem (walkF_has (nm:=nm) hp (n-1) (by omega) n (Nat.le_refl _))
  rw[h i hi] at e
  omega
 refine List.ext_getElem (by rw[hl,List.length_range]) (fun i h1 h2=>?_)
 rw[h i h1,List.getElem_range]
theorem OkPar.pq{ts:Tr}(h:OkPar ts){i:Nat}(h0:0<i)(hi:i<ts.length):ts[i].parent=(pq ts i:Int)∧pq ts i<i:=by
 have q:=h i hi h0
 unfold Go.Proofs.YtdjhnfopdlgliaaGreat.pq
 rw[nd_get hi]
 omega
theorem OkPar.nd{ts:Tr}(h:OkPar ts):∀i,0<i→i<ts.length→(nd ts i).parent=(Go.Proofs.YtdjhnfopdlgliaaGreat.pq ts i:Int)∧Go.Proofs.YtdjhnfopdlgliaaGreat.pq ts i<i:=fun i h0 hi=>by
 have:=h.pq h0 hi
 rwa [nd_get hi]
theorem level_any(ts:Tr)(a:Option Addr)(cap i:Nat)(w:World)(h:SlOf 3 RNod w a ts)(hp:OkPar ts)(hl:ts.length≤120)(hi:i<ts.length):
  Calls Tryz.prog 96 #[.agg #[.slice a ts.length cap],.int .i64 i] w (Grows w (.int .i64 (dep ts i:Nat))):=by
 have H:=Lib.hid h
 have HP:=Lib.hid hp
 obtain⟨d,hd⟩:∃d,dep ts i=d:=⟨_,rfl⟩
 have HD:=Lib.hid hd
 have d100:d≤120:=by have:=dep_le hp i hi;omega
 rw[hd]
 clear h hp hd
 go_enter Tryz.func96,Tryz.ntmps96
 go_wp2_with fail
 have RX:=Lib.hid (Row.new w #[.slice a ts.length cap] 31)
 obtain⟨W,hW⟩:∃W:World,Hid (W=w.alloc (.cells #[.slice a ts.length cap] 31)):=⟨_,Lib.hid rfl⟩
 have GW:Hid (Gr w W):=Lib.hid (by rw[hW.out];exact(Gr.refl _).alloc _)
 rw[←hW.out] at RX ⊢
 obtain⟨PB,hPB⟩:∃N:Nat,Hid (w.heap.size=N):=⟨_,Lib.hid rfl⟩
 rw[hPB.out] at RX
 (try rw[hPB.out])
 clear hW hPB
 go_loopw [1,5] (fun u n wr=>∃k m:Nat,k<ts.length∧u= .int .i64 k∧n= .int .i64 m∧m+dep ts k=d∧Gr W wr) (fun u _ _=>(intOf u).toNat)
 case atStart=>exact⟨i,0,hi,rfl,rfl,by have:=HD.out;omega,Gr.refl _⟩
 case round=>
  obtain⟨k,m,hk,rfl,rfl,hs,hg⟩:=hrel
  have HG:=Lib.hid hg
  have x0:=(RX.out.gr hg).cell 0 (by simp)
  have hx:=has_of_cell x0
  clear hg
  by_cases h0:0<k
  ·obtain⟨b,o,pa,pc,rfl,c0,c1,c2,_⟩:=nods_at (H.out.gr RNod.mono (GW.out.trans HG.out)) k hk
   obtain⟨p1,p2⟩:=HP.out.pq h0 hk
   obtain⟨q,hq⟩:∃q:Nat,pq ts k=q:=⟨_,rfl⟩
   have DS:Hid (dep ts k=dep ts q+1):=Lib.hid (dep_succ HP.out hk h0 (by rw[p1,hq]))
   rw[p1,hq] at c0
   rw[hq] at p2
   have hh:=has_of_cell c0
   have HS:=Lib.hid hs
   have k1:(k:Int)<ts.length:=by omega
   have hm:m+1≤1000000:=by omega
   clear p1 hq c1 c2 hs
   go_wp2_with fail
   go_roundw
   case rel=>exact⟨q,m+1,by omega,rfl,by go_num,by have:=HS.out;have:=DS.out;omega,HG.out⟩
   case measure=>simp[intOf];omega
  ·obtain rfl:k=0:=by omega
   rw[dep_zero] at hs
   obtain rfl:m=d:=by omega
   go_wp2_with fail
   go_ret
   exact⟨rfl,GW.out.trans HG.out⟩
theorem asc_bad{ps:List Prp}{m:Nat}(h:m+1<ps.length)(q:ltS ps[m].name ps[m+1].name=false):ascP ps=false:=by
 unfold ascP
 rw[List.all_eq_false]
 refine⟨m,List.mem_range.2 (by omega),?_⟩
 rw[List.getD_eq_getElem?_getD,List.getD_eq_getElem?_getD,List.getElem?_eq_getElem (by omega:m<ps.length),List.getElem?_eq_getElem h,Option.getD_some,Option.getD_some,q]
 simp
theorem asc_good{ps:List Prp}(h:∀m (h:m+1<ps.length),ltS ps[m].name ps[m+1].name=true):ascP ps=true:=by
 unfold ascP
 rw[List.all_eq_true]
 intro m hm
 have hm:=List.mem_range.1 hm
 have h1:m+1<ps.length:=by omega
 rw[List.getD_eq_getElem?_getD,List.getD_eq_getElem?_getD,List.getElem?_eq_getElem (by omega:m<ps.length),List.getElem?_eq_getElem h1,Option.getD_some,Option.getD_some]
 exact h m h1
theorem named_rootN{ts:Tr}(h:namedT ts=true)(h0:0<ts.length):(nd ts 0).parent= -1:=by
 have q:=named_iff.1 h 0 h0
 rw[nodNm_eq,Bool.and_eq_true] at q
 have q:=q.1
 unfold hdrN at q
 rw[if_pos rfl] at q
 simp only[Bool.and_eq_true,decide_eq_true_eq] at q
 rw[nd_get h0]
 exact q.1
theorem walkR_yes{ts:Tr}(h0:0<ts.length)(hn:namedT ts=true)(h1:∀i (hi:i<(walkF ts.length (pq ts) (nmT ts) ts.length 0).length),(walkF ts.length (pq ts) (nmT ts) ts.length 0)[i]=i)(h2:∀j (hj:j<ts.length),ascP ts[j].props=true):(walkN ts ts.length).isSome=true:=by
 have hp:=(named_par hn).nd
 rw[walk_same h0 (named_rootN hn h0) hp]
 exact⟨walk_ext (fun i a b=>(hp i a b).2) h0 h1,fun j hj=>by rw[nd_get hj];exact h2 j hj⟩
theorem walkR_no{ts:Tr}(h0:0<ts.length)(hn:namedT ts=true){i:Nat}(hi:i<(walkF ts.length (pq ts) (nmT ts) ts.length 0).length)(h1:(walkF ts.length (pq ts) (nmT ts) ts.length 0)[i]≠i):(walkN ts ts.length).isSome=false:=by
 rw[←Bool.not_eq_true,walk_same h0 (named_rootN hn h0) (named_par hn).nd]
 rintro⟨q,_⟩
 apply h1
 have:=List.getElem_of_eq q hi
 rw[this,List.getElem_range]
theorem walkR_no2{ts:Tr}(h0:0<ts.length)(hn:namedT ts=true){j:Nat}(hj:j<ts.length)(h:ascP ts[j].props=false):(walkN ts ts.length).isSome=false:=by
 rw[←Bool.not_eq_true,walk_same h0 (named_rootN hn h0) (named_par hn).nd]
 rintro⟨_,q⟩
 have:=q j hj
 rw[nd_get hj,h] at this
 cases this
theorem ordered_any(ts:Tr)(a:Option Addr)(cap:Nat)(w:World)(h:SlOf 3 RNod w a ts)(hl:ts.length≤120)(h0:0<ts.length)(hpl:∀n∈ts,n.props.length≤24)(hn:namedT ts=true):
  Calls Tryz.prog 95 #[.agg #[.slice a ts.length cap]] w (Grows w (.bool (walkN ts ts.length).isSome)):=by
 have H:=Lib.hid h
 have HPL:=Lib.hid hpl
 have HN:=Lib.hid hn
 have l1:=h0
 have l2:=hl
 have hpq:=(named_par hn).nd
 have PO:ParOk ts:=⟨by omega,fun i hi h0=>(named_par hn).pq h0 hi⟩
 have WL:=fun f x (h1:ts.length≤f+x) (h2:x<ts.length)=>(show(walkF ts.length (pq ts) (nmT ts) f x).length≤1000 from by
  have:=walkF_len (nm:=nmT ts) (fun i a b=>(hpq i a b).2) f x h2
  omega)
 have WK:=walk_ok ts PO WL ts.length 0 (by omega) l1 a cap
 have LL:=walkF_len (nm:=nmT ts) (fun i a b=>(hpq i a b).2) ts.length 0 l1
 have YES:=Lib.hid (walkR_yes l1 hn)
 have NO:=Lib.hid (fun i (hi:i<(walkF ts.length (pq ts) (nmT ts) ts.length 0).length)=>walkR_no l1 hn hi)
 have NO2:=Lib.hid (fun j (hj:j<ts.length)=>walkR_no2 l1 hn hj)
 obtain⟨l,hll⟩:∃l,walkF ts.length (pq ts) (nmT ts) ts.length 0=l:=⟨_,rfl⟩
 obtain⟨v,hv⟩:∃v,(walkN ts ts.length).isSome=v:=⟨_,rfl⟩
 rw[hll] at WK LL YES NO
 rw[hv] at YES NO NO2 ⊢
 have WK:=Lib.hid WK
 have l120:l.length≤120:=by omega
 clear h hpl hn hpq PO WL hv hll LL
 go_enter Tryz.func95,Tryz.ntmps95
 have RX:=Lib.hid (Row.new w #[.slice a ts.length cap] 31)
 go_wp2_with fail
 obtain⟨W,hW⟩:∃W:World,Hid (W=w.alloc (.cells #[.slice a ts.length cap] 31)):=⟨_,Lib.hid rfl⟩
 have GW:Hid (Gr w W):=Lib.hid (by rw[hW.out];exact(Gr.refl _).alloc _)
 rw[←hW.out] at RX ⊢
 obtain⟨PB,hPB⟩:∃N:Nat,Hid (w.heap.size=N):=⟨_,Lib.hid rfl⟩
 rw[hPB.out] at RX ⊢
 clear hW hPB
 refine(WK.out W (H.out.gr RNod.mono GW.out)).mono ?_
 rintro e w1 ⟨v',rfl,how,hg1⟩
 obtain⟨va,vc,rfl⟩:=owns_slice how
 have OW:=Lib.hid how
 have G1:=Lib.hid (GW.out.trans hg1)
 have RX1:=Lib.hid (RX.out.gr hg1)
 clear how hg1 WK
 go_wp2_with fail
 go_loopw [11] (fun i wr=>∃k:Nat,k≤l.length∧i= .int .i64 k∧(∀j (hj:j<l.length),j<k→l[j]=j)∧Gr w1 wr) (fun i _=>l.length-(intOf i).toNat)
 case atStart=>exact⟨0,Nat.zero_le _,rfl,fun j _ h=>by omega,Gr.refl _⟩
 case round=>
  obtain⟨k,hk,rfl,ha,hg⟩:=hrel
  have HG:=Lib.hid hg
  have HA:=Lib.hid ha
  clear hg ha
  by_cases hlt:k<l.length
  ·obtain⟨g,cap2,e1,_,_,hc⟩:=owns_cell (Gr.owns OW.out HG.out) (by omega)
   simp only[Value.slice.injEq] at e1
   obtain⟨e1, -,e9⟩:=e1
   subst e1 e9
   have d0:=hc k (by omega)
   rw[ints_get hlt] at d0
   have hd0:=has_of_cell d0
   have kk:(k:Int)<l.length:=by omega
   have HLT:=Lib.hid hlt
   have NOK:=Lib.hid (NO.out k hlt)
   have NXT:=Lib.hid (fun(q:l[k]'hlt=k)=>(fun j (hj:j<l.length) (hjk:j<k+1)=>(show l[j]=j by
    by_cases e:j=k
    ·subst e;exact q
    ·exact HA.out j hj (by omega))))
   obtain⟨z,hz⟩:∃z,l[k]'hlt=z:=⟨_,rfl⟩
   rw[hz] at d0 NOK NXT
   clear hc hz hlt hk
   by_cases e:z=k
   ·subst e
    go_wp2_with fail
    go_roundw
    case rel=>exact⟨z+1,by have:=HLT.out;omega,by go_num,NXT.out rfl,HG.out⟩
    case measure=>simp[intOf];have:=HLT.out;omega
   ·have V:Hid (v=false):=Lib.hid (NOK.out e)
    have f1:((k:Int)==(z:Int))=false:=by rw[beq_eq_false_iff_ne];omega
    have f2:¬(k:Int)=(z:Int):=by omega
    have f3:¬k=z:=by omega
    clear e
    go_wp2_with fail
    go_ret
    exact⟨ret_bool (by rw[V.out]),G1.out.trans HG.out⟩
  ·have FIRST:Hid (∀i (hi:i<l.length),l[i]=i):=Lib.hid (fun i hi=>HA.out i hi (by omega))
   have kk:¬(k:Int)<l.length:=by omega
   have x0:=(RX1.out.gr HG.out).cell 0 (by simp)
   have hxb:=has_of_cell x0
   clear hlt hk
   go_wp2_with fail
   obtain⟨w4,rfl⟩:∃wo,wo=wr:=⟨_,rfl⟩
   have G4:=Lib.hid (G1.out.trans HG.out)
   go_loopw [23] (fun i wr=>∃k:Nat,k≤ts.length∧i= .int .i64 k∧(∀j (hj:j<ts.length),j<k→ascP ts[j].props=true)∧Gr w4 wr) (fun i _=>ts.length-(intOf i).toNat)
   case atStart=>exact⟨0,Nat.zero_le _,rfl,fun j _ h=>by omega,Gr.refl _⟩
   case round=>
    obtain⟨k,hk,rfl,ha,hg⟩:=hrel
    have HG5:=Lib.hid hg
    have HA2:=Lib.hid ha
    clear hg ha x0 hxb
    by_cases hlt:k<ts.length
    ·obtain⟨b,o,pa,pc,rfl,c0,c1,c2,hps,hpf,hw,hnl⟩:=nods_at (H.out.gr RNod.mono (G4.out.trans HG5.out)) k hlt
     have n10:=HPL.out _ (List.getElem_mem hlt)
     have BAD:=Lib.hid (NO2.out k hlt)
     have NXT:=Lib.hid (fun(q:ascP ts[k].props=true)=>(fun j (hj:j<ts.length) (hjk:j<k+1)=>(show ascP ts[j].props=true by
      by_cases e:j=k
      ·subst e;exact q
      ·exact HA2.out j hj (by omega))))
     obtain⟨n,hn⟩:∃n,ts[k]=n:=⟨_,rfl⟩
     rw[hn] at c0 c1 c2 hps n10 BAD NXT
     have HPS:=Lib.hid hps
     have hh:=has_of_cell c0
     have HLT:=Lib.hid hlt
     have kn:(k:Int)<ts.length:=by omega
     have BX:=Lib.hid (Row.new wr #[.int .i64 n.parent,.string (bs n.name),.slice pa n.props.length pc] 55)
     clear hn hps hpf hw hnl hlt hk
     go_wp2_with fail
     obtain⟨W6,hW6⟩:∃W:World,Hid (W=wr.alloc (.cells #[.int .i64 n.parent,.string (bs n.name),.slice pa n.props.length pc] 55)):=⟨_,Lib.hid rfl⟩
     have G6:Hid (Gr wr W6):=Lib.hid (by rw[hW6.out];exact(Gr.refl _).alloc _)
     rw[←hW6.out] at BX ⊢
     obtain⟨PX,hPX⟩:∃N:Nat,Hid (wr.heap.size=N):=⟨_,Lib.hid rfl⟩
     rw[hPX.out] at BX ⊢
     have G46:=Lib.hid (HG5.out.trans G6.out)
     have HP6:Hid (SlOf 2 RPrp W6 pa n.props):=Lib.hid (HPS.out.gr RPrp.mono G6.out)
     clear hW6 hPX c0 c1 c2 hh G6
     go_loopw [7] (fun i wq=>∃m:Nat,1≤m∧m≤n.props.length+1∧i= .int .i64 m∧(∀j (hj:j+1<n.props.length),j+1<m→ltS n.props[j].name n.props[j+1].name=true)∧Gr W6 wq) (fun i _=>n.props.length+1-(intOf i).toNat)
     case atStart=>exact⟨1,by omega,by omega,rfl,fun j _ h=>by omega,Gr.refl _⟩
     case round=>
      obtain⟨m,hm1,hm,rfl,hp,hg⟩:=hrel
      have HG7:=Lib.hid hg
      have HP7:=Lib.hid hp
      have y2:=(BX.out.gr hg).cell 2 (by simp)
      have hyb:=has_of_cell y2
      clear hg hp
      by_cases hml:m<n.props.length
      ·obtain⟨m,rfl⟩:∃q,m=q+1:=⟨m-1,by omega⟩
       obtain⟨b2,o2,rfl,d0,d1, -, -⟩:=prps_at (HP6.out.gr RPrp.mono HG7.out) m (by omega)
       obtain⟨b3,o3,e3,f0,f1, -, -⟩:=prps_at (HP6.out.gr RPrp.mono HG7.out) (m+1) hml
       cases e3
       have BADP:=Lib.hid (fun(q:ltS n.props[m].name n.props[m+1].name=false)=>BAD.out (asc_bad hml q))
       have NXP:=Lib.hid (fun(q:ltS n.props[m].name n.props[m+1].name=true)=>(fun j (hj:j+1<n.props.length) (hjk:j+1<m+1+1)=>(show ltS n.props[j].name n.props[j+1].name=true by
        by_cases e:j=m
        ·subst e;exact q
        ·exact HP7.out j hj (by omega))))
       obtain⟨na,hna⟩:∃q,n.props[m].name=q:=⟨_,rfl⟩
       obtain⟨nb,hnb⟩:∃q,n.props[m+1].name=q:=⟨_,rfl⟩
       rw[hna] at d0 BADP NXP
       rw[hnb] at f0 BADP NXP
       have hd:=has_of_cell d0
       have HML:=Lib.hid hml
       have mm:((m:Int)+1)<n.props.length:=by omega
       have mm2:(m:Int)<n.props.length:=by omega
       have mw:IntKind.i64.wrap (((m:Int)+1)-1)=m:=by simp[IntKind.wrap,IntKind.bits,IntKind.signed];omega
       clear hna hnb d1 f1 hml hm
       cases hb:Op.bytesLess na nb with
       |true=>
        have q1:(!Op.bytesLess na nb)=false:=by rw[hb];rfl
        have NX2:=Lib.hid (NXP.out hb)
        clear hb
        go_wp2_with fail
        go_quiet (fail)
        go_wp2_with fail
        exact⟨⟨m+2,by omega,by have:=HML.out;omega,by go_num,NX2.out,HG7.out.drewN _⟩,by simp[intOf];have:=HML.out;omega⟩
       |false=>
        have q1:(!Op.bytesLess na nb)=true:=by rw[hb];rfl
        have V:Hid (v=false):=Lib.hid (BADP.out hb)
        clear hb
        go_wp2_with fail
        go_quiet (fail)
        go_wp2_with fail
        go_ret
        exact⟨ret_bool (by rw[V.out]),G4.out.trans (G46.out.trans (HG7.out.drewN _))⟩
      ·have mm:¬(m:Int)<n.props.length:=by omega
       have AL:Hid (ascP n.props=true):=Lib.hid (asc_good (fun j hj=>HP7.out j hj (by omega)))
       clear hml hm
       go_wp2_with fail
       go_roundw
       case rel=>exact⟨k+1,by have:=HLT.out;omega,by go_num,NXT.out AL.out,G46.out.trans HG7.out⟩
       case measure=>simp[intOf];have:=HLT.out;omega
    ·have V:Hid (v=true):=Lib.hid (YES.out FIRST.out (fun j hj=>HA2.out j hj (by omega)))
     have kn:¬(k:Int)<ts.length:=by omega
     clear hlt hk
     go_wp2_with fail
     go_ret
     exact⟨ret_bool (by rw[V.out]),G4.out.trans HG5.out⟩
end Go.Proofs.YtdjhnfopdlgliaaGreat
