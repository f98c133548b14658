/- Lemmas and contracts for the proof of PointAlone (several texts in one, printed by wip/tools/pack.py): QaDb QaK QaG. -/
import Derived.Test.YtlmhkjdkcoiioaaGreatDoorAl8pC
import Derived.Test.YtlmhkjdkcoiioaaGreatDoorAl8pp
import Derived.Test.YtlmhkjdkcoiioaaGreatDoorAl8pu
import Derived.Test.YtlmhkjdkcoiioaaGreatDoorAl8pA
import Derived.Test.YtlmhkjdkcoiioaaGreatDoorAl8pw
import Derived.Lib.AppendZeros
set_option maxRecDepth 100000
set_option maxHeartbeats 16000000
set_option linter.unusedVariables false
set_option linter.unusedSimpArgs false
namespace Go.Proofs.YtlmhkjdkcoiioaaGreatDoor
section
open Go.RowKit Go.Shelf
open Classical
attribute [local go_sem] Oper.semAt_some
theorem Mo(l:List Sup)(d:List Drw)(ao a1:Option Addr)(cap c1:Nat)(w:World)(h:ag 5 bG w ao l)(h1:ag 4 cX w a1 d)(hd:b7 l d):
  Calls Tryz.prog 123 #[.slice ao l.length cap,.slice a1 d.length c1] w (fun e w'=>∃g k:Nat,∃f:Int,e= .returned (.tuple #[.slice (some ⟨g,0,none⟩) l.length l.length,.slice (some ⟨k,0,none⟩) l.length l.length,.int .i64 f])/\Gr w w'/\
   ((f= -1/\∃s,ix l d l.length=some s/\Row w' k 3 (an s.1))∨(0<=f/\f<16/\ix l d l.length=none))):=by
 have H:=aa h;have H1:=aa h1;have HD:=aa hd;have zv:l.length<=16:=by have hz:=(cW hd.1).1;simp only[jI,not_or] at hz;omega
 have YU:d.length<=32:=hd.2.1;clear h h1 hd;refine(callsIn_wide (n:=3)).1 ?_;refine callsIn_of_wp_marks Tryz.func123 rfl trivial ?_ rfl;simp only[Tryz.ntmps123,List.size_toArray,List.length_cons,List.length_nil,Nat.reduceAdd,Nat.reduceSub,Array.replicate_succ,Array.replicate_zero,List.push_toArray,List.append_toArray,List.nil_append,List.cons_append];refine wpIn_wide.2 ?_;obtain⟨W1,hW1⟩:∃W1:World,Hid (W1=((w.alloc (.cells #[.slice none 0 0] 167)).alloc (.cells #[.slice none 0 0] 22)).alloc (.cells #[.int .i64 0] 3)):=⟨_,aa rfl⟩;go_upto_region 1 with fail;rw[<-hW1.out];have SZ1:Hid (W1.heap.size=w.heap.size+3):=aa (by rw[hW1.out];simp);have R6:Hid (Row W1 (w.heap.size+2) 3 [.int .i64 0]):=aa (by rw[hW1.out];have:=Row.new ((w.alloc (.cells #[.slice none 0 0] 167)).alloc (.cells #[.slice none 0 0] 22)) #[.int .i64 0] 3;simpa using this)
 have DW:Hid (D1 w W1 w.heap.size (w.heap.size+1) W1):=aa (by
  refine⟨by rw[hW1.out];exact(((gfl _).alloc _).alloc _).alloc _,Nat.le_refl _,⟨.slice none 0 0,?_⟩,⟨.slice none 0 0,?_⟩,fun _ _ _ _ _ q=>q⟩
  ·rw[hW1.out];exact((Row.new w _ _).alloc _).alloc _
  rw[hW1.out];have:=(Row.new (w.alloc (.cells #[.slice none 0 0] 167)) #[.slice none 0 0] 22).alloc (.cells #[.int .i64 0] 3);simpa using this)
 clear hW1;refine dmr (W0:=w) DW.out zv ⟨Nat.le_refl _,by have:=SZ1.out;omega⟩ ⟨by omega,by have:=SZ1.out;omega⟩ (by omega) ?_;intro zN nR nY oz nH nU jw jB wx g k YM YK hDx hg hk hrg hrk hr4 hr5;subst YM;subst YK;have M0:Hid (DM w l.length g k (dm l.length l.length) (List.replicate l.length 0) wx):=aa ⟨hDx.gr,hr4,hr5,hDx.oth _ _ _ (by omega) (by omega) R6.out,hrg,hrk,by have:=SZ1.out;omega,by have:=SZ1.out;omega⟩;clear hDx hg hk hrg hrk hr4 hr5 DW R6 SZ1;simp only[ta];go_wp2_with fail;go_loopw [25] (fun i wr=>∃m:Nat,m<=d.length/\i= .int .i64 m/\∃xs,DM w l.length g k xs (List.replicate l.length 0) wr/\Vs l.length xs (eB l.length (d.take m))) (fun i _=>d.length-(intOf i).toNat);case atStart=>exact⟨0,Nat.zero_le _,rfl,dm l.length l.length,M0.out,by rw[List.take_zero,Em];exact Vs.zero _⟩
 case round=>
  clear M0;obtain⟨m,hm,rfl,xs,jx,hv⟩:=hrel;have M:=aa jx;have V:=aa hv;clear jx hv;by_cases aA:m<d.length
  ·obtain⟨b,o,rfl,t0,t1,t2,t3⟩:=(H1.out.gr cX.mono M.out.gr) m aA;have HDm:=aa (HD.out.2.2 m aA);obtain⟨sn,mQ⟩:=Int.eq_ofNat_of_zero_le HDm.out.1;have SN:=aa mQ;have t0:=t0.1;have t1:=t1.1;have t2:=t2.1;have t3:=t3.1;have th:=ae t0;rw[mQ] at t0;have eX:sn<l.length:=by have:=HDm.out.2.1;omega
   clear mQ;have nl:=V.out.2.1;obtain⟨vv,hvv⟩:∃vv,(eB l.length (d.take m))[sn]'(by omega)=vv:=⟨_,rfl⟩;have VV:=aa hvv;clear hvv;have xY:3*sn+2<xs.length:=by have:=V.out.1;omega
   have cv:wr.cell? ⟨g,sn*3,none⟩=some (.int .i64 vv):=by have q:=M.out.rg.iat (3*sn) (by omega);rw[V.out.2.2 sn eX (by omega) (by omega),VV.out,Nat.mul_comm 3 sn] at q;exact q
   have cv1:wr.cell? ⟨g,sn*3+1,none⟩=some (.int .i64 (xs[3*sn+1]'(by omega))):=by have q:=M.out.rg.iat (3*sn+1) (by omega);rw[Nat.mul_comm sn 3];exact q
   have cv2:wr.cell? ⟨g,sn*3+2,none⟩=some (.int .i64 (xs[3*sn+2]'(by omega))):=by have q:=M.out.rg.iat (3*sn+2) (by omega);rw[Nat.mul_comm sn 3];exact q
   have fv:=fun o=>M.out.rg.free o;have gh:=M.out.rg.has;have c4:=M.out.r4.cell 0 (by simp);have h4:=M.out.r4.has;simp only[List.getElem_cons_zero] at c4;have k1:(sn:Int)<l.length:=by omega
   have k0:(0:Int)<=sn:=by omega
   by_cases vU:vv<d[m].low
   ·go_wp2_with fail
    go_quiet (fail)
    go_wp2_with fail;have PK:=(Np V.out aA SN.out (by omega) VV.out).1 vU;exact⟨⟨m+1,by omega,rfl,_,((M.out.step ((gfl _).alloc _)).step ((gfl _).drewN _)).set3 sn _ _ _,PK⟩,by simp[intOf];omega⟩
   have hlo2:d[m].low<=vv:=by omega
   go_wp2_with fail
   go_quiet (fail)
   go_wp2_with fail;have PK:=(Np V.out aA SN.out (by omega) VV.out).2 hlo2;exact⟨⟨m+1,by omega,rfl,_,(M.out.step ((gfl _).alloc _)).step ((gfl _).drewN _),PK⟩,by simp[intOf];omega⟩
  have hmd:m=d.length:=by omega
  subst hmd;rw[List.take_length] at V;have OK:=aa (cW HD.out.1).2;go_wp2_with fail;refine(De l d ao a1 cap c1 wr (H.out.gr bG.mono M.out.gr) zv OK.out (H1.out.gr cX.mono M.out.gr) YU (fun k hk=>by have:=HD.out.2.2 k hk;exact⟨this.1,by have:=this.2.1;omega⟩)).mono ?_;rintro e w2 ⟨au,cu,rfl,hcu,hfu,hru,bY⟩;rw[bN] at hcu hfu ⊢;have U2:=aa hru;have M2:=aa (M.out.step bY);have G2:=aa bY;have V2:=V;clear hru bY M;go_wp2_with fail;refine((callsIn_wide (n:=3)).1 (xB Fence.wide 3 trivial rfl _ _ _ _)).mono ?_;rintro e w' ⟨rfl,rfl⟩;go_wp2_with fail;obtain⟨W3,hW3⟩:∃W3:World,W3=(w2.alloc (.cells #[.slice au l.length cu] 27)).alloc (.cells #[.slice ao l.length cap] 26):=⟨_,rfl⟩;have Hq:Hid (Gr w2 W3):=aa (by rw[hW3];exact((gfl _).alloc _).alloc _);have Z3:Hid (W3.heap.size=w2.heap.size+2):=aa (by rw[hW3];simp);have R9:Hid (Row W3 w2.heap.size 27 [.slice au l.length cu]):=aa (by rw[hW3];exact(Row.new w2 _ _).alloc _);have RS:Hid (Row W3 (w2.heap.size+1) 26 [.slice ao l.length cap]):=aa (by rw[hW3];have:=Row.new (w2.alloc (.cells #[.slice au l.length cu] 27)) #[.slice ao l.length cap] 26;simpa using this)
  rw[<-hW3];clear hW3;have M3:=aa (M2.out.step Hq.out);have GK:Hid (g<w2.heap.size/\k<w2.heap.size/\w.heap.size+3<=g/\w.heap.size+3<=k):=aa ⟨M2.out.rg.has,M2.out.rh.has,M2.out.hg,M2.out.hh⟩;have J0:Hid (DRj w l.length g k w2.heap.size au l.length cu (cH l d) 0 xs (List.replicate l.length 0) W3):=aa ⟨M3.out.gr.below,M3.out.r4,M3.out.r5,M3.out.r6,R9.out,M3.out.rg,M3.out.rh,U2.out.giB Hq.out⟩;have Vq:Hid (w.heap.size<=W3.heap.size):=aa M3.out.gr.size;obtain⟨b,al,cl,hbS,vP,hS⟩:=Ao H.out M3.out.gr w2.heap.size (by have:=Z3.out;omega);have LVS:Hid (∀i (hi:i<l.length),ag 1 RI w (al i) l[i].levels):=aa (fun i hi=>by
   rcases hS with q|⟨o,e,hc⟩
   ·omega
   exact Qk H.out M3.out.gr e hc i hi)
  have hBs:w2.heap.size+1<W3.heap.size:=by have:=Z3.out;omega
  have cBs:=RS.out.cell 0 (by simp);simp only[List.getElem_cons_zero] at cBs;refine(wpIn_wide (n:=3)).1 ?_;refine wpIn_rangeFunc_ownH rfl (by omega) (gf:=186) (lb:= #[.pointer (some ⟨w2.heap.size+1,0,none⟩)]) rfl trivial (enters_of Tryz.func186 (by kernel_rfl) rfl)
   (sY Fence.wide _ trivial rfl (by omega) (w2.heap.size+1) b cap ao l al cl zv _ hBs hbS cBs hS) (fun h k=>h.trans k) (FM hbS hBs) (Below.refl _ _) (fun _=>rfl)
   (fun pre W=>(∃xs lv,DRj w l.length g k w2.heap.size au l.length cu (cH l d) 0 xs lv W/\(xs.length=3*l.length/\lv.length=l.length)/\∀m,m<=l.length->pre=jO l.length m->∃sb,ix l d m=some (lv,sb)/\Vs l.length xs sb)/\W3.heap.size<=W.heap.size)
   (fun c pre W=>c= .ret/\(∀m,m<=l.length->pre=jO l.length m->ix l d m=none)/\∃i:Nat,i<l.length/\∃xs lv,DRj w l.length g k w2.heap.size au l.length cu (cH l d) (i:Int) xs lv W)
   (fun s X Y rw' hs hg hr=>⟨(by obtain⟨⟨xs,lv,q1,q2⟩,_⟩:=hs;exact⟨xs,lv,q1.own Vq.out hg hr,q2⟩),Nat.le_trans hs.2 hg.size⟩)
   (fun c s X Y rw' hs hg hr=>(by obtain⟨q0,q1,i,q2,xs,lv,q3⟩:=hs;exact⟨q0,q1,i,q2,xs,lv,q3.own Vq.out hg hr⟩))
   ⟨⟨xs,List.replicate l.length 0,J0.out,⟨V.out.1,by simp⟩,fun m hm e=>?start⟩,Nat.le_refl _⟩
   (fun x a' W=>∃Bx,W3.heap.size<=Bx/\Row W Bx 81 (svs l al cl x)/\a'={tmps:= #[.slice ao l.length cap,.slice a1 d.length c1,undef,undef,.pointer (some ⟨w.heap.size,0,none⟩),.pointer (some ⟨w.heap.size+1,0,none⟩),.pointer (some ⟨w.heap.size+1+1,0,none⟩),u7,u8,.pointer (some ⟨w2.heap.size,0,none⟩),.int .i64 (x.1:Int),.pointer (some ⟨Bx,0,none⟩),undef,undef,undef,zN,nR,nY,oz,.slice (some ⟨g,0,none⟩) l.length l.length,nU,jw,.slice (some ⟨k,0,none⟩) l.length l.length,.slice a1 d.length c1,.int .i64 d.length,.int .i64 d.length,.bool false,u27,u28,u29,u30,u31,u32,u33,u34,u35,u36,u37,u38,u39,u40,u41,u42,u43,u44,u45,u46,u47,.slice ao l.length cap,.slice a1 d.length c1,.slice au l.length cu,.slice ao l.length cap,.func (.func 186) #[] #[.pointer (some ⟨w2.heap.size+1,0,none⟩)],.int .i64 (x.1:Int),sv l al cl x,undef,undef,undef,undef,undef,undef,undef,undef,undef,undef,undef,undef,undef,undef,undef,undef,undef,undef,undef,undef,undef,undef,undef,undef,undef,undef,undef,undef,undef,undef,undef,undef,undef,undef,undef,undef,undef,undef,undef,undef,undef,undef,undef,undef,undef,undef,undef,undef,undef,undef,undef,undef,undef,undef],defers:= []})
   (fun x a' s X Y rw' hs hg hr=>by obtain⟨Bx,q1,q2,q3⟩:=hs;exact⟨Bx,q1,jR (β:=Unit) _ _ (fun _=>_) () X Y rw' q2 hg (fun r e=>(hr r e).2),q3⟩) ?assign ?body ?done ?stop
  case start=>have:=congrArg List.length e;rw[rD _ _ hm] at this;simp at this;subst this;exact⟨_,rfl,V.out⟩
  case assign=>rintro lp pre x W K ⟨⟨xs',lv',hj,Gy,dU⟩,iB⟩ hK;simp only[sv];gi_wp2;refine hK _ _ ((KeepsOthers.alloc _ _).from _) ⟨Below.heap_alloc _ _ _ (by omega),Below.heap_alloc _ _ _ (by omega)⟩ ⟨⟨xs',lv',hj.gr ((gfl _).alloc _),Gy,dU⟩,by simp;omega⟩ ⟨W.heap.size,by omega,Row.new W _ _,rfl⟩
  case body=>
   rintro lp pre x a' W hlp hrec ⟨⟨xs',lv',hj,Gy,dU⟩,iB⟩ ⟨Bx,hBx,bX,rfl⟩ tT;have jp:=x.2;have J:=aa hj;have ST:=aa dU;have BX:=aa bX;have gk:=GK.out;have z3:=Z3.out;have FIN:Hid (∀(xs2 lv2:List Int) (W':World),Two g k W W'->DRj w l.length g k w2.heap.size au l.length cu (cH l d) 0 xs2 lv2 W'->(xs2.length=3*l.length/\lv2.length=l.length)->(∀s:List Int×List Int,s.1=lv'->Vs l.length xs' s.2->∃s2,iq l d x.1 s=some s2/\s2.1=lv2/\Vs l.length xs2 s2.2)->
     KeepsFrom W3.heap.size W W'/\km b (w2.heap.size+1) W W'/\(∃xs lv,DRj w l.length g k w2.heap.size au l.length cu (cH l d) 0 xs lv W'/\(xs.length=3*l.length/\lv.length=l.length)/\∀m,m<=l.length->pre++ [x]=jO l.length m->∃sb,ix l d m=some (lv,sb)/\Vs l.length xs sb)/\W3.heap.size<=W'.heap.size):=aa (by
    intro xs2 lv2 W' ht lI hln2 kX;have hbw2:=vP (by omega);have hbg:b≠g/\b≠k:=(by omega);refine⟨ht.ko.from _,ht.keep2 ⟨by omega,hbg.1,hbg.2⟩ ⟨by omega,by omega,by omega⟩,⟨xs2,lv2,lI,hln2,fun m hm e=>?_⟩,Nat.le_trans iB ht.ko.size⟩;obtain⟨k0,rfl,e2,e3,e4⟩:=ug hm e;obtain⟨sb,q1,q3⟩:=ST.out k0 (by omega) e2;obtain⟨s2,p1,p2,p3⟩:=kX (lv',sb) rfl q3;refine⟨s2.2,?_,p3⟩;simp only[ix,q1,Option.bind_some];rw[<-e3,<-p2];exact p1)
   obtain⟨bu,ou,e9,cu0⟩:=hj.ru.one x.1 (by rw[bN];exact jp);subst e9;unfold RB at cu0;rw[ri] at cu0;have uh:=ae cu0;have x0:=bX.cell 0 (by simp[svs]);have x1:=bX.cell 1 (by simp[svs]);have x2:=bX.cell 2 (by simp[svs]);have x3:=bX.cell 3 (by simp[svs]);have x4:=bX.cell 4 (by simp[svs]);have xh:=bX.has;simp only[svs,List.getElem_cons_zero,List.getElem_cons_succ] at x0 x1 x2 x3 x4;have c4:=hj.r4.cell 0 (by simp);have h4:=hj.r4.has;have c5:=hj.r5.cell 0 (by simp);have h5:=hj.r5.has;have c9:=hj.r9.cell 0 (by simp);have h9:=hj.r9.has;simp only[List.getElem_cons_zero] at c4 c5 c9;have g0:(0:Int)<=x.1:=by omega
   have g1:(x.1:Int)<l.length:=by omega
   clear hj bX dU;by_cases hu:fF l d x.1
   ·rw[dtx hu] at cu0;have UU:=aa hu;obtain⟨_,⟨pr1,pr2,pr3,pr4,pr5,pr6,_,_⟩,prl⟩:=OK.out x.1 jp;have zv:l[x.1].levels.length<=16:=by
     have hz:=(cW HD.out.1).1;simp only[jI,not_or,not_exists] at hz;have:=hz.2 x.1;unfold JR at this;by_cases q:16<l[x.1].levels.length
     ·exact absurd ⟨jp,q⟩ this
     omega
    have SRT:=aa (zx OK.out jp);have PRL:=aa prl;clear prl hu;have xY:3*x.1<xs'.length:=(by omega);obtain⟨xv,Aw⟩:∃xv,xs'[3*x.1]=xv:=⟨_,rfl⟩;have XV:=aa Aw;have cx:W.cell? ⟨g,x.1*3,none⟩=some (.int .i64 xv):=by have q:=J.out.rg.iat (3*x.1) xY;rw[Aw,Nat.mul_comm 3 x.1] at q;exact q
    have gh:=J.out.rg.has;clear Aw;obtain⟨kk,t9⟩:∃kk,lvN l[x.1].levels xv=kk:=⟨_,rfl⟩;have KK:=aa t9;have LC:=aa (Hx SRT.out xv);have V1:Hid (∀W',Gr W W'->Calls Tryz.prog 167 #[.agg #[.int .i64 l[x.1].parent,.slice (al x.1) l[x.1].levels.length (cl x.1),.int .i64 l[x.1].dropout,.int .i64 l[x.1].capacity,.bool l[x.1].always],.int .i64 xv] W' (aN W' (.tuple #[.int .i64 kk,.bool (decide (kk<l[x.1].levels.length))]))):=aa (fun W' hW=>by refine(OB l[x.1] xv (al x.1) (cl x.1) W' ((LVS.out x.1 jp).giI (J.out.grw.trans hW)) pr3 zv SRT.out).mono ?_;rintro e w' ⟨j,rfl,ej,hg⟩;rw[t9] at ej;subst ej;exact⟨rfl,hg⟩)
    clear t9;by_cases lX:kk<l[x.1].levels.length
    ·rw[dtx lX] at V1;gi_wp2_with fail;refine qL 11 (by kernel_rfl) (by kernel_rfl) (by kernel_rfl) ?_;simp only[List.take_succ_cons,List.take_zero,List.drop_succ_cons,List.drop_zero];repeat(go_big_quiet_step (first|(go_at_call 167;with_reducible exact bJ (V1.out _ grr))))
     refine wpQuiet_nil ?_;rintro _ ⟨⟨O,dd⟩,rfl⟩;have ck:=J.out.rh.iat x.1 (by omega);have fk:=J.out.rh.free x.1;have kh:=J.out.rh.has;gi_wp2_with fail;obtain⟨W4,hW4⟩:∃W4:World,W4=xt (W.setCell ⟨k,x.1,none⟩ (.int .i64 kk)) O dd:=⟨_,rfl⟩;have T4:Hid (Two g k W W4):=aa (by rw[hW4];exact((Two.refl _ _ _).set (.inr rfl)).gr ((gfl _).xt _ _));have J4:Hid (DRj w l.length g k w2.heap.size (some ⟨bu,ou,none⟩) l.length cu (cH l d) 0 xs' (lv'.set x.1 (kk:Int)) W4):=aa (by rw[hW4];exact(J.out.setl gk.2.2.1 gk.2.2.2 ⟨gk.1,gk.2.1⟩ x.1 kk).gr ((gfl _).xt _ _));have BX4:Hid (Row W4 Bx 81 (svs l al cl x)):=aa (by rw[hW4];exact Row.gr (BX.out.oth (by omega)) ((gfl _).xt _ _));rw[<-hW4];clear hW4 x0 x1 x2 x3 x4 xh c4 h4 c5 h5 c9 h9 cu0 uh ck fk kh cx gh V1;have x0:=BX4.out.cell 0 (by simp[svs]);have x1:=BX4.out.cell 1 (by simp[svs]);have x2:=BX4.out.cell 2 (by simp[svs]);have xh:=BX4.out.has;simp only[svs,List.getElem_cons_zero,List.getElem_cons_succ] at x0 x1 x2;obtain⟨bl,ol,el,cL,_⟩:=((LVS.out x.1 jp).giI J4.out.grw).one kk lX;have hhl:=ae cL;obtain⟨lv0,hlv0⟩:∃lv0,l[x.1].levels[kk]=lv0:=⟨_,rfl⟩;have LB:1<=lv0/\lv0<=5000:=(by obtain⟨_,q1,q2,_⟩:=PRL.out kk lX;omega);have LV0:=aa hlv0;rw[hlv0] at cL;rw[el] at x1;clear hlv0 el;have k0:(0:Int)<=kk:=(by omega);have k1:(kk:Int)<l[x.1].levels.length:=(by omega);refine eP 8 (by kernel_rfl) (by kernel_rfl) (by kernel_rfl) ?_;simp only[List.take_succ_cons,List.take_zero,List.drop_succ_cons,List.drop_zero];repeat(go_big_quiet_step (fail))
     refine wpQuiet_nil ?_;have c4:=J4.out.r4.cell 0 (by simp);have h4:=J4.out.r4.has;have gh:=J4.out.rg.has;simp only[List.getElem_cons_zero] at c4;have LN2:Hid ((lv'.set x.1 (kk:Int)).length=l.length):=aa (by simpa using Gy.2);clear z3 gk;by_cases hp:0<=l[x.1].parent
     ·obtain⟨p,iy⟩:=Int.eq_ofNat_of_zero_le hp;have PP:=aa iy;rw[iy] at x0 pr1 pr2;clear iy hp;have hpx:p<x.1:=(by omega);have dw:(p:Int)<l.length:=(by omega);have z9:(0:Int)<=p:=(by omega);have hx4:3*p+2<xs'.length:=(by omega);obtain⟨yv,hyv⟩:∃yv,xs'[3*p]=yv:=⟨_,rfl⟩;have YV:=aa hyv;have cy:W4.cell? ⟨g,p*3,none⟩=some (.int .i64 yv):=by
       have q:=J4.out.rg.iat (3*p) (by omega);rw[hyv,Nat.mul_comm 3 p] at q;exact q
      have cy1:W4.cell? ⟨g,p*3+1,none⟩=some (.int .i64 (xs'[3*p+1]'(by omega))):=by have q:=J4.out.rg.iat (3*p+1) (by omega);rw[Nat.mul_comm p 3];exact q
      have cy2:W4.cell? ⟨g,p*3+2,none⟩=some (.int .i64 (xs'[3*p+2]'(by omega))):=by have q:=J4.out.rg.iat (3*p+2) (by omega);rw[Nat.mul_comm p 3];exact q
      have fv:=fun o=>J4.out.rg.free o;clear hyv;by_cases hy:yv<lv0+l[x.1].dropout
      ·gi_wp2_with fail;exact FIN.out (set3 xs' p (lv0+l[x.1].dropout) (-1) (x.1:Int)) (lv'.set x.1 (kk:Int)) _ ((((T4.out.gr ((gfl _).drew)).set (.inl rfl)).set (.inl rfl)).set (.inl rfl)) ((J4.out.gr ((gfl _).drew)).set3 GK.out.2.2.1 GK.out.2.2.2 ⟨GK.out.1,GK.out.2.1⟩ p _ _ _) ⟨by simpa [set3] using Gy.1,LN2.out⟩ (fun s e1 e2=>VD OK.out jp UU.out e1 e2 xY XV.out KK.out lX PP.out (by omega) (by omega) YV.out LV0.out hy _ _)
      have lg:lv0+l[x.1].dropout<=yv:=(by omega);gi_wp2_with fail;exact FIN.out xs' (lv'.set x.1 (kk:Int)) _ (T4.out.gr ((gfl _).drew)) (J4.out.gr ((gfl _).drew)) ⟨Gy.1,LN2.out⟩ (fun s e1 e2=>We OK.out jp UU.out e1 e2 xY XV.out KK.out lX PP.out (by omega) (by omega) YV.out LV0.out (by omega))
     have zD:l[x.1].parent<0:=(by omega);clear hp;gi_wp2_with fail;exact FIN.out xs' (lv'.set x.1 (kk:Int)) _ (T4.out.gr ((gfl _).drew)) (J4.out.gr ((gfl _).drew)) ⟨Gy.1,LN2.out⟩ (fun s e1 e2=>UA OK.out jp UU.out e1 e2 xY XV.out KK.out lX zD)
    rw[dfx lX] at V1;have c6:=J.out.r6.cell 0 (by simp);have h6:=J.out.r6.has;have f4:=J.out.r4.free 0;have f5:=J.out.r5.free 0;have f6:=J.out.r6.free 0;simp only[List.getElem_cons_zero] at c6;gi_wp2_with fail;refine qL 11 (by kernel_rfl) (by kernel_rfl) (by kernel_rfl) ?_;simp only[List.take_succ_cons,List.take_zero,List.drop_succ_cons,List.drop_zero];repeat(go_big_quiet_step (first|(go_at_call 167;with_reducible exact bJ (V1.out _ grr))))
    refine wpQuiet_nil ?_;rintro _ ⟨⟨O,dd⟩,rfl⟩;gi_wp2_with fail;refine dmf (w0:=w) (J.out.gr ((gfl _).xt O dd)) ⟨gk.2.2.1,gk.2.2.2,gk.1,gk.2.1⟩ ?_;intro Ba AI Aj wx hJ lW Jn;have JX:=aa hJ;have KX:=aa lW;clear hJ lW Jn;simp only[zc];gi_wp2_with fail;refine⟨(((Two.refl g k W).gr ((gfl _).xt O dd)).ko.trans KX.out).from _,rfl,fun m hm e=>?_,x.1,jp,xs',lv',JX.out⟩;obtain⟨k0,rfl,e2,e3,e4⟩:=ug hm e;obtain⟨sb,q1,q3⟩:=ST.out k0 (by omega) e2;simp only[ix,q1,Option.bind_some];rw[<-e3];exact UD OK.out jp UU.out q3 xY XV.out KK.out lX
   rw[dfx hu] at cu0;gi_wp2_with fail;exact FIN.out xs' lv' W (Two.refl _ _ _) J.out Gy (fun s e1 e2=>⟨s,vH hu,e1,e2⟩)
  case done=>rintro D ys W hD rfl ⟨⟨xs',lv',hj,Gy,dU⟩,iB⟩ hK;obtain⟨sb,hgo,_⟩:=dU l.length (Nat.le_refl _) rfl;have J:=aa hj;have GO:=aa hgo;have c4:=hj.r4.cell 0 (by simp);have h4:=hj.r4.has;have f4:=hj.r4.free 0;have c5:=hj.r5.cell 0 (by simp);have h5:=hj.r5.has;have f5:=hj.r5.free 0;have c6:=hj.r6.cell 0 (by simp);have h6:=hj.r6.has;have f6:=hj.r6.free 0;simp only[List.getElem_cons_zero] at c4 c5 c6;clear hj hgo dU;go_wp2_with fail;refine dme (w0:=w) (z2:=0) J.out ⟨GK.out.2.2.1,GK.out.2.2.2,GK.out.1,GK.out.2.1⟩ ?_;intro ib gD wx hJ lW Jn;have JX:=aa hJ;have KX:=aa lW;clear hJ lW Jn;simp only[Bi];go_wp2_with fail;have hK2:wx.heap[D]?=some (.deferred (some [])):=KX.out.same D _ hK rfl;have J6:Hid (DRj w l.length g k w2.heap.size au l.length cu (cH l d) (-1) xs' lv' (wx.putObj D (.deferred none))):=aa (JX.out.own Vq.out (grownBy_putObj' _ D (.deferred none)) (fun r e=>by cases e;exact⟨hD,_,hK2,rfl⟩));refine⟨by simp,.inl ⟨_,_,rfl,run_takeDeferred hK2,?_⟩⟩;have c4:=J6.out.r4.cell 0 (by simp);have c5:=J6.out.r5.cell 0 (by simp);have c6:=J6.out.r6.cell 0 (by simp);simp only[List.getElem_cons_zero] at c4 c5 c6;refine⟨.tuple #[.slice (some ⟨g,0,none⟩) l.length l.length,.slice (some ⟨k,0,none⟩) l.length l.length,.int .i64 (-1)],?_,g,k, -1,rfl,J6.out.grw,.inl ⟨rfl,(lv',sb),GO.out,J6.out.rh⟩⟩;simp[results,Tryz.results123,go_sem,c4,c5,c6]
  case stop=>rintro D c pre W hD ⟨m,hm,hpre⟩ ⟨rfl,zE,i,hi,xs',lv',hj⟩ hK;have NO:=Ey (zE m hm hpre) l.length hm;gi_wp2_with fail;have JX:=aa hj;have KX:Hid (KeepsOthers W W):=aa (KeepsOthers.refl W);clear hj;have hK2:W.heap[D]?=some (.deferred (some [])):=KX.out.same D _ hK rfl;have J6:Hid (DRj w l.length g k w2.heap.size au l.length cu (cH l d) (i:Int) xs' lv' (W.putObj D (.deferred none))):=aa (JX.out.own Vq.out (grownBy_putObj' _ D (.deferred none)) (fun r e=>by cases e;exact⟨hD,_,hK2,rfl⟩));refine⟨by simp,.inl ⟨_,_,rfl,run_takeDeferred hK2,?_⟩⟩;have c4:=J6.out.r4.cell 0 (by simp);have c5:=J6.out.r5.cell 0 (by simp);have c6:=J6.out.r6.cell 0 (by simp);simp only[List.getElem_cons_zero] at c4 c5 c6;refine⟨.tuple #[.slice (some ⟨g,0,none⟩) l.length l.length,.slice (some ⟨k,0,none⟩) l.length l.length,.int .i64 i],?_,g,k,i,rfl,J6.out.grw,.inr ⟨by omega,by omega,NO⟩⟩;simp[results,Tryz.results123,go_sem,c4,c5,c6]
end
section
open Go.RowKit
open Classical
theorem Sa{l:List Sup}{d:List Drw}(hc:gz l):∀{m:Nat} {s:List Int×List Int},ix l d m=some s->mY l s.1:=by
 intro m;induction m with
 |zero=>intro s h;simp only[ix,Option.some.injEq] at h;subst h;refine⟨by simp,fun k hk h'=>?_⟩;obtain⟨_,⟨_,_,q,_⟩,_⟩:=hc k hk;simp;omega
 |succ m ih=>
  intro s h;simp only[ix,Option.bind_eq_some_iff] at h;obtain⟨s0,h0,h1⟩:=h;have q:=ih h0;unfold iq at h1;split at h1
  ·rename_i hi;split at h1
   ·split at h1
    ·cases h1
    rename_i hn;cases h1
    refine mY.set q _ hi _ (by omega) ?_;exact(za _ _).2
   cases h1;exact q
  cases h1;exact q
theorem Ln{l:List Sup}{lv:List Int}(hc:chk l=0)(h:mY l lv)(k:Nat)(hk:k<lv.length):aK lv[k]:=by
 refine h.wide (fun i hi=>?_) k hk;have hz:=(cW hc).1;simp only[jI,not_or,not_exists] at hz;by_cases q:16<l[i].levels.length
 ·exact absurd ⟨hi,q⟩ (hz.2 i)
 omega
def QL(l:List Sup)(d:List Drw)(w:World)(e:Ending)(w':World):Prop:=
 ∃v,e= .returned (.tuple #[v,.int .i64 (lc l d)])/\Ay w' v (lO l d)/\Gr w w'
theorem Bd{l:List Sup}{d:List Drw}{w w':World}{x:Int}(he:lc l d=x)(hp:lO l d=m7)(hg:Gr w w'):QL l d w (.returned (.tuple #[.agg #[.slice none 0 0,.slice none 0 0],.int .i64 x])) w':=
 ⟨_,by rw[he],by rw[hp];exact vN _,hg⟩
theorem wl{W:World}{B T:Nat}{x0 x1 v0 v1:Value}(h:Row W B T [x0,x1]):Row ((W.setCell ⟨B,0,none⟩ v0).setCell ⟨B,1,none⟩ v1) B T [v0,v1]:=by simpa using (h.set 0 v0).set 1 v1
theorem uC{w:World}{B T o:Nat}{vs:List Value}{au:Option Addr}{us:List Bool}{v:Value}(hs:ag 1 RB w au us)(h:Row w B T vs)(hu:∀u∈vs,∀b,u≠ .bool b):ag 1 RB (w.setCell ⟨B,o,none⟩ v) au us:=fun k hk=>by
 obtain⟨b,p,e,c⟩:=hs k hk;refine⟨b,p,e,?_⟩;unfold RB at c ⊢;rw[World.cell?_setCell_other]
 ·exact c
 intro q;have:B=b:=(by simpa using q:B=b/\o=p+k).1;subst this;unfold Row at h;simp only[World.cell?,h] at c;have c2:vs[p+k*1]?=some (.bool us[k]):=by simpa using c
 exact hu _ (List.mem_of_getElem? c2) _ rfl
theorem QT(l:List Sup)(d:List Drw)(ao a1:Option Addr)(cap c1:Nat)(w:World)(h:ag 5 bG w ao l)(hf:Fit l.length)(h1:ag 4 cX w a1 d)(f1:Fit d.length):
  Calls Tryz.prog 55 #[.slice ao l.length cap,.slice a1 d.length c1] w (QL l d w):=by
 have H:=aa h;have H1:=aa h1;have HF:=aa hf;have F1:=aa f1;clear h h1 hf f1;obtain⟨W0,hW0⟩:∃W0:World,W0=w.alloc (.cells #[.slice none 0 0,.slice none 0 0] 29):=⟨_,rfl⟩;have G0:Hid (Gr w W0):=aa (by rw[hW0];exact(gfl _).alloc _);have R0:Hid (Row W0 w.heap.size 29 [.slice none 0 0,.slice none 0 0]):=aa (by rw[hW0];exact Row.new _ _ _);go_enter Tryz.func55,Tryz.ntmps55;go_wp2_with fail;rw[<-hW0];clear hW0;refine(Ou l d ao a1 cap c1 W0 (H.out.gr bG.mono G0.out) HF.out (H1.out.gr cX.mono G0.out) F1.out).mono ?_;rintro e w1 ⟨rfl,bD⟩;have G1:=aa (G0.out.trans bD);have R1:=aa (R0.out.gr bD);clear bD R0 G0;have c0:=R1.out.cell 0 (by simp);have c1':=R1.out.cell 1 (by simp);have ch:=R1.out.has;have cf0:=R1.out.free 0;have cf1:=R1.out.free 1;simp only[List.getElem_cons_zero,List.getElem_cons_succ] at c0 c1';by_cases g:beg l d=0
 ·have B0:=aa g;have hd:=yK g;have HD:=aa hd;have zv:l.length<=16:=by
   have hz:=(cW hd.1).1;simp only[jI,not_or] at hz;omega
  rw[g];clear g hd c0 c1' ch cf0 cf1;go_wp2_with fail;refine(Mo l d ao a1 cap c1 w1 (H.out.gr bG.mono G1.out) (H1.out.gr cX.mono G1.out) HD.out).mono ?_;rintro e w2 ⟨gb,kb,f,rfl,bY,hres⟩;have G2:=aa (G1.out.trans bY);have R2:=aa (R1.out.gr bY);have RES:=aa hres;clear bY hres R1 G1;go_wp2_with fail;refine(De l d ao a1 cap c1 w2 (H.out.gr bG.mono G2.out) zv (cW HD.out.1).2 (H1.out.gr cX.mono G2.out) HD.out.2.1 (fun k hk=>by have:=HD.out.2.2 k hk;exact⟨this.1,by have:=this.2.1;omega⟩)).mono ?_;rintro e w3 ⟨au,cu,rfl,hcu,hfu,hru,cG⟩;rw[bN] at hcu hfu ⊢;obtain⟨W4,hW4⟩:∃W4:World,W4=w3.alloc (.cells #[.slice au l.length cu,.slice (some ⟨kb,0,none⟩) l.length l.length] 29):=⟨_,rfl⟩;have G4:=aa (show Gr w W4 by rw[hW4];exact(G2.out.trans cG).alloc _);have Vr:=aa (show Gr w2 W4 by rw[hW4];exact cG.alloc _);have R4:=aa (R2.out.gr Vr.out);have RU:=aa (show ag 1 RB W4 au (cH l d) by rw[hW4];exact hru.giB ((gfl _).alloc _));have R5:Hid (Row W4 w3.heap.size 29 [.slice au l.length cu,.slice (some ⟨kb,0,none⟩) l.length l.length]):=aa (by rw[hW4];exact Row.new _ _ _);clear hru cG R2 G2;go_upto_region 6 with fail;rw[<-hW4];clear hW4;have c0:=R4.out.cell 0 (by simp);have c1':=R4.out.cell 1 (by simp);have ch:=R4.out.has;have cf0:=R4.out.free 0;have cf1:=R4.out.free 1;have z0:=R5.out.cell 0 (by simp);have z1:=R5.out.cell 1 (by simp);have zh:=R5.out.has;simp only[List.getElem_cons_zero,List.getElem_cons_succ] at c0 c1' z0 z1;rcases RES.out with⟨rfl,s,hs,fe⟩|⟨f0,f1,zE⟩
  ·have SS:=aa hs;have LV:=aa (Sa (cW HD.out.1).2 hs);have RK:=aa (Row.gr fe Vr.out);have RW:=aa (Row.slI RK.out (Ln HD.out.1 LV.out));have lvl:=LV.out.1;clear hs fe RES c0 c1' ch cf0 cf1;have MA:=aa (rv l ⟨cH l d,s.1⟩ d ao au (some ⟨kb,0,none⟩) a1 cap cu l.length c1 W4 (H.out.gr bG.mono G4.out) HF.out RU.out RW.out (H1.out.gr cX.mono G4.out) (by simp only[bN];exact HF.out) (by simp only[lvl];exact HF.out) F1.out);simp only[bN,lvl] at MA;go_wp2_with fail;refine MA.out.mono ?_;rintro e w5 ⟨rfl,jl⟩;have G5:=aa (G4.out.trans jl);have R6:=aa (R4.out.gr jl);have R7:=aa (R5.out.gr jl);have RU5:=aa (RU.out.giB jl);have RK5:=aa (Row.gr RK.out jl);clear jl R4 R5 RU RW RK MA;have c0:=R6.out.cell 0 (by simp);have c1':=R6.out.cell 1 (by simp);have ch:=R6.out.has;have cf0:=R6.out.free 0;have cf1:=R6.out.free 1;have z0:=R7.out.cell 0 (by simp);have z1:=R7.out.cell 1 (by simp);have zh:=R7.out.has;simp only[List.getElem_cons_zero,List.getElem_cons_succ] at c0 c1' z0 z1;have ud:bi l ⟨cH l d,s.1⟩ d↔my l ⟨cH l d,s.1⟩ d:=⟨fun q=>q.2.2,fun q=>⟨HD.out,LV.out.rls HD.out.1,q⟩⟩;have HMA:=aa ud;clear ud;by_cases hm:bi l ⟨cH l d,s.1⟩ d
   ·have E:=aa (xi B0.out (show lM l d=some ⟨cH l d,s.1⟩ by unfold lM;rw[SS.out];exact if_pos (HMA.out.1 hm)));rw[dtx hm];clear hm;go_wp2_with fail;have R9:=aa (wl (v0:=(.slice au l.length cu)) (v1:=(.slice (some ⟨kb,0,none⟩) l.length l.length)) R6.out);have G9:=aa (show Gr w ((_:World).setCell ⟨w.heap.size,0,none⟩ (.slice au l.length cu)|>.setCell ⟨w.heap.size,1,none⟩ (.slice (some ⟨kb,0,none⟩) l.length l.length)) from Gr.setc (Nat.le_refl _) (Gr.setc (Nat.le_refl _) G5.out));have y0:=R9.out.cell 0 (by simp);have y1:=R9.out.cell 1 (by simp);simp only[List.getElem_cons_zero,List.getElem_cons_succ] at y0 y1;refine bodyPost_ret (v:= .tuple #[.agg #[(.slice au l.length cu),(.slice (some ⟨kb,0,none⟩) l.length l.length)],.int .i64 0]) ?_ rfl ?_
    ·simp[results,Tryz.results55,go_sem,y0,y1]
    have nk:kb≠w.heap.size:=FA RK5.out R6.out (by decide);have RK9:=(RK5.out.oth (b:=w.heap.size) (o:=0) (v:= .slice au l.length cu) (fun q=>nk q.symm)).oth (b:=w.heap.size) (o:=1) (v:= .slice (some ⟨kb,0,none⟩) l.length l.length) (fun q=>nk q.symm);have RU9:=uC (o:=1) (v:= .slice (some ⟨kb,0,none⟩) l.length l.length) (uC (o:=0) (v:= .slice au l.length cu) RU5.out R6.out (by simp)) (R6.out.set 0 _) (by simp);exact⟨_,by rw[E.out.1],by rw[E.out.2];exact⟨au,some ⟨kb,0,none⟩,cu,l.length,by simp only[bN,lvl],RU9,Row.slI RK9 (Ln HD.out.1 LV.out),by simp only[bN];exact hcu,by simp only[bN];exact hfu,by simp only[lvl];exact Nat.le_refl _,by simp only[lvl];exact HF.out⟩,G9.out⟩
   have E:=aa (yA B0.out (show lM l d=none by unfold lM;rw[SS.out];exact if_neg (fun q=>hm (HMA.out.2 q))));rw[dfx hm];clear hm;go_wp2_with fail;have R9:=aa (wl (v0:=(.slice none 0 0)) (v1:=(.slice none 0 0)) R6.out);have G9:=aa (show Gr w ((_:World).setCell ⟨w.heap.size,0,none⟩ (.slice none 0 0)|>.setCell ⟨w.heap.size,1,none⟩ (.slice none 0 0)) from Gr.setc (Nat.le_refl _) (Gr.setc (Nat.le_refl _) G5.out));have y0:=R9.out.cell 0 (by simp);have y1:=R9.out.cell 1 (by simp);simp only[List.getElem_cons_zero,List.getElem_cons_succ] at y0 y1;refine bodyPost_ret (v:= .tuple #[.agg #[(.slice none 0 0),(.slice none 0 0)],.int .i64 9]) ?_ rfl ?_
   ·simp[results,Tryz.results55,go_sem,y0,y1]
   exact Bd E.out.1 E.out.2 G9.out
  have E:=aa (yA B0.out (show lM l d=none by unfold lM;rw[zE]));clear zE RES;go_wp2_with fail;have R9:=aa (wl (v0:=(.slice none 0 0)) (v1:=(.slice none 0 0)) R4.out);have G9:=aa (show Gr w ((_:World).setCell ⟨w.heap.size,0,none⟩ (.slice none 0 0)|>.setCell ⟨w.heap.size,1,none⟩ (.slice none 0 0)) from Gr.setc (Nat.le_refl _) (Gr.setc (Nat.le_refl _) G4.out));have y0:=R9.out.cell 0 (by simp);have y1:=R9.out.cell 1 (by simp);simp only[List.getElem_cons_zero,List.getElem_cons_succ] at y0 y1;refine bodyPost_ret (v:= .tuple #[.agg #[(.slice none 0 0),(.slice none 0 0)],.int .i64 9]) ?_ rfl ?_
  ·simp[results,Tryz.results55,go_sem,y0,y1]
  exact Bd E.out.1 E.out.2 G9.out
 have E:=aa (show lc l d=beg l d/\lO l d=m7 by unfold lc lO;rw[if_neg g,if_neg g];exact⟨rfl,rfl⟩);go_wp2_with fail;have R9:=aa (wl (v0:=(.slice none 0 0)) (v1:=(.slice none 0 0)) R1.out);have G9:=aa (show Gr w ((_:World).setCell ⟨w.heap.size,0,none⟩ (.slice none 0 0)|>.setCell ⟨w.heap.size,1,none⟩ (.slice none 0 0)) from Gr.setc (Nat.le_refl _) (Gr.setc (Nat.le_refl _) G1.out));have y0:=R9.out.cell 0 (by simp);have y1:=R9.out.cell 1 (by simp);simp only[List.getElem_cons_zero,List.getElem_cons_succ] at y0 y1;refine bodyPost_ret (v:= .tuple #[.agg #[(.slice none 0 0),(.slice none 0 0)],.int .i64 (beg l d)]) ?_ rfl ?_
 ·simp[results,Tryz.results55,go_sem,y0,y1]
 exact Bd E.out.1 E.out.2 G9.out
theorem Sc(n:Nat)(hn:n<=100000)(w:World):
  Calls Tryz.prog 130 #[.slice none 0 0,.int .i64 n] w (fun e w'=>∃v,e= .returned v/\w'.ownsRow w.heap.size 42 3 v 0 []/\Gr w w'):=by
 obtain⟨i0,hi,dt,da,cN⟩:=info_parts ya;by_cases h0:0<n
 ·have hr:=Lib.run_append_nil_zeros (P:=Tryz.prog) w 36 3 36 42 i0 (.agg #[.int .i64 0,.int .i64 0,.int .i64 0]) .i64 .i64 Tryz.underlying36 Tryz.underlying3 hi dt n h0 (by rw[da];decide) (by omega) (by rw[cN];omega);obtain⟨cp,Ah⟩:∃cp,grownCap w n 0 42=cp:=⟨_,rfl⟩;have tC:=grownCap_ge w n 0 42;have mI:=grownCap_le_maxLen w n 0 42 (by unfold maxLen;omega);obtain⟨cs,lV⟩:∃cs,Builtin.zeroCells (Value.agg #[.int .i64 0,.int .i64 0,.int .i64 0]).cells n++Builtin.zeroCells (Value.agg #[.int .i64 0,.int .i64 0,.int .i64 0]).cells (grownCap w n 0 42-n)=cs:=⟨_,rfl⟩;have iB:cs.size=cp*3:=by
   rw[<-lV,Array.size_append,size_zeroCells,size_zeroCells,Ah];rw[Ah] at tC;have:(Value.agg #[.int .i64 0,.int .i64 0,.int .i64 0]).cells.size=3:=by simp[Value.cells,go_sem]
   rw[this];omega
  rw[lV,Ah] at hr;rw[Ah] at tC mI;have HR:=aa hr;clear lV Ah hr;have hn2:(0:Int)<n:=by omega
  have Hi:(0:Int)<=cp:=by omega
  go_enter Tryz.func130,Tryz.ntmps130;go_wp2_with (at_builtin;refine Lib.wpList_append_run _ rfl _ _ _ _ rfl _ _ rfl rfl _ _ HR.out ?_);go_ret;refine⟨_,rfl,⟨by simp,.inr ⟨w.heap.size,cp,cs,rfl,Nat.le_refl _,?_,Nat.zero_le _,mI,iB,by simp⟩⟩,((gfl _).drew).alloc _⟩;exact World.alloc_heap_new w.drew (.cells cs 42)
 obtain rfl:n=0:=by omega
 go_enter Tryz.func130,Tryz.ntmps130;go_wp2_with fail;go_ret;exact⟨_,rfl,World.ownsRow_nil w _ _ _,gfl _⟩
theorem zp{w:World}{ao:Option Addr}{ps:List Wri}(h:ag 3 dY w ao ps):yT w ao ps.length 3 (ci ps):=by
 refine⟨AJ ps,fun bS=>?_⟩;obtain⟨b,o,rfl,_⟩:=h 0 (by omega);refine⟨_,rfl,fun j u hj=>?_⟩;have lI:j<ps.length*3:=by rw[<-AJ];exact(List.getElem?_eq_some_iff.1 hj).1
 have hk:j/3<ps.length:=by omega
 have hr:j%3<3:=Nat.mod_lt _ (by omega);have e:=Jj ps (j/3) (j%3) hk hr;rw[show j/3*3+j%3=j by omega,hj] at e;obtain⟨b',o',e',⟨c0,_⟩,⟨c1,_⟩,⟨c2,_⟩⟩:=h (j/3) hk;cases e'
 rw[Addr.add_lit];obtain q|q|q:j%3=0∨j%3=1∨j%3=2:=by omega
 ·rw[q] at e;simp[jM] at e;rw[e,<-c0];congr 2;omega
 ·rw[q] at e;simp[jM] at e;rw[e,<-c1];congr 2;omega
 rw[q] at e;simp[jM] at e;rw[e,<-c2];congr 2;omega
theorem uf(ps:List Wri):∀u∈ci ps,u.oneCell'=true:=fun u hu=>by obtain⟨x,_,hx⟩:=List.mem_flatMap.1 hu;simp[jM] at hx;rcases hx with rfl|rfl|rfl<;>rfl
theorem vT(ps qs:List Wri):ci (ps++qs)=ci ps++ci qs:=by simp[ci]
def CatM(w:World)(Bl:Nat)(ls:List (List Wri))(al:Nat->Option Addr)(cl:Nat->Nat):Prop:=∀k (hk:k<ls.length),w.cell? ⟨Bl,k,none⟩=some (.slice (al k) ls[k].length (cl k))/\ag 3 dY w (al k) ls[k]
theorem Gu{ls:List (List Wri)}{k:Nat}(hk:k<ls.length):(ls.take (k+1)).flatten=(ls.take k).flatten++ls[k]:=by rw[List.take_succ_eq_append_getElem hk,List.flatten_append];simp
theorem Oe(ls:List (List Wri))(k:Nat):(ls.take k).flatten.length<=ls.flatten.length:=by
 conv=>rhs;rw[<-List.take_append_drop k ls]
 rw[List.flatten_append,List.length_append];omega
theorem Ml(ls:List (List Wri))(Bl:Nat)(al:Nat->Option Addr)(cl:Nat->Nat)(cap:Nat)(w:World)(h:CatM w Bl ls al cl)(hl:ls.length<=100)(ht:ls.flatten.length<=100000):
  Calls Tryz.prog 58 #[.slice (some ⟨Bl,0,none⟩) ls.length cap] w (fun e w'=>∃v,e= .returned v/\w'.ownsRow w.heap.size 42 3 v ls.flatten.length (ci ls.flatten)/\Gr w w'):=by
 have H:=aa h;clear h;obtain⟨i0,hi,dt,da,cN⟩:=info_parts ya;go_enter Tryz.func58,Tryz.ntmps58;go_wp2_with fail;go_loopw [3,11] (fun v i wr=>∃k:Nat,k<=ls.length/\v= .int .i64 ((ls.take k).flatten.length:Nat)/\i= .int .i64 k/\wr=w) (fun v i _=>ls.length-(intOf i).toNat);case atStart=>exact⟨0,Nat.zero_le _,rfl,rfl,rfl⟩
 case round=>
  obtain⟨k,hk,rfl,rfl,rfl⟩:=hrel;by_cases aA:k<ls.length
  ·obtain⟨c0,s0⟩:=H.out k aA;have ch:=ae c0;have F:=Gu aA;have FL:=Oe ls (k+1);rw[F,List.length_append] at FL;have FS:=aa F;clear F s0;obtain⟨m,hm⟩:∃m,(ls.take k).flatten.length=m:=⟨_,rfl⟩;have HM:=aa hm;rw[hm] at FL ⊢;obtain⟨q,hq⟩:∃q,ls[k].length=q:=⟨_,rfl⟩;have HQ:=aa hq;rw[hq] at FL c0;clear hm hq;have h0:(0:Int)<=(m:Int)+q:=by omega
   go_wp2_with fail;refine⟨⟨k+1,by omega,?_,rfl,trivial⟩,by simp[intOf];omega⟩;rw[FS.out,List.length_append,HM.out,HQ.out]
   push_cast
   rfl
  have Is:k=ls.length:=by omega
  rw[Is,List.take_length];obtain⟨N,hN⟩:∃N,ls.flatten.length=N:=⟨_,rfl⟩;have HN:=aa hN;rw[hN] at ht ⊢;clear hN;have n0:¬((N:Int)<0):=by omega
  rw[Is] at aA;go_wp2_with fail;obtain⟨w0,rfl⟩:∃w0,w0=wr:=⟨_,rfl⟩;refine(Sc N ht w0).mono ?_;rintro e w1 ⟨v1,rfl,ho,bD⟩;obtain⟨a1,c1,rfl⟩:=be ho;have O1:=aa ho;have G1:=aa bD;clear ho bD;go_wp2_with fail;go_loopw [6,27] (fun v i wx=>∃(k:Nat) (a:Option Addr) (c:Nat),k<=ls.length/\v= .slice a ((ls.take k).flatten.length) c/\i= .int .i64 k/\wx.ownsRow w0.heap.size 42 3 v (ls.take k).flatten.length (ci (ls.take k).flatten)/\Gr w0 wx) (fun v i _=>ls.length-(intOf i).toNat);case atStart=>exact⟨0,a1,c1,Nat.zero_le _,rfl,rfl,O1.out,G1.out⟩
  case round=>
   obtain⟨k2,a,c,sy,rfl,rfl,ho,hg⟩:=hrel;have O:=aa ho;have G:=aa hg;clear ho hg O1 G1;by_cases DP:k2<ls.length
   ·obtain⟨c0',s0⟩:=H.out k2 DP;have c0:=aB G.out c0';have ch:=ae c0;have F:=aa (Gu DP);have FL:=Oe ls (k2+1);rw[F.out,List.length_append,HN.out] at FL;have GS:=aa (zp (s0.gr dY.mono G.out));have BB:=aa G.out.size;clear s0 c0';obtain⟨m,hm⟩:∃m,(ls.take k2).flatten.length=m:=⟨_,rfl⟩;have HM:=aa hm;rw[hm] at O FL ⊢;obtain⟨q,hq⟩:∃q,ls[k2].length=q:=⟨_,rfl⟩;have HQ:=aa hq;rw[hq] at c0 GS FL;clear hm hq;go_wp2_with (at_builtin;refine bM _ rfl _ _ 36 rfl w0.heap.size 42 i0 (.agg #[.int .i64 0,.int .i64 0,.int .i64 0]) 3 24 Tryz.underlying36 hi dt da cN rfl (by decide) (.slice a m c) m _ rfl O.out (al k2) q (cl k2) (ci ls[k2]) rfl GS.out (uf _) (by unfold maxLen;omega) (by omega) BB.out ?_;intro v9 W9 aV aE _);obtain⟨a9,c9,rfl⟩:=be aV;have LE:(ls.take (k2+1)).flatten.length=m+q:=(by rw[F.out,List.length_append,HM.out,HQ.out]);refine⟨⟨k2+1,a9,c9,by omega,by rw[LE],rfl,?_,G.out.grown aE (fun j e=>(nj O.out j e).1)⟩,by simp[intOf];omega⟩;rw[LE,F.out,vT];exact aV
   have hke2:k2=ls.length:=by omega
   go_wp2_with fail;go_ret;rw[hke2,List.take_length] at O;rw[hke2,List.take_length];rw[<-HN.out];exact⟨_,rfl,O.out,G.out⟩
end
end Go.Proofs.YtlmhkjdkcoiioaaGreatDoor
