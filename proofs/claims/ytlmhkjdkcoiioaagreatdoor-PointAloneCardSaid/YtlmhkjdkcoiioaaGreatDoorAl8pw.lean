/- Lemmas and contracts for the proof of PointAlone (several texts in one, printed by wip/tools/pack.py): ZRmpF ZRmpH ZRmpJ ZRfc ZRfd ZMk ZMkA ZStA. -/
import Derived.Test.YtlmhkjdkcoiioaaGreatDoorAl8pv
import Derived.Test.YtlmhkjdkcoiioaaGreatDoorAl8pa
import Derived.Test.YtlmhkjdkcoiioaaGreatDoorAl8pb
import Derived.Deep.RegionLaw
import Derived.Deep.AppendLies
set_option maxRecDepth 100000
set_option maxHeartbeats 16000000
set_option linter.unusedVariables false
set_option linter.unusedSimpArgs false
namespace Go.Proofs.YtlmhkjdkcoiioaaGreatDoor
open Go.RowKit
open Classical
def Cb(w:World)(ps:List Wri)(x:Int)(e:Ending)(w':World):Prop:=
 ∃ao cap,e= .returned (.tuple #[.slice ao ps.length cap,.int .i64 x])/\ps.length<=cap/\ag 3 dY w' ao ps/\Gr w w'
theorem qK{w w':World}{ps:List Wri}{x:Int}(hp:ps= [])(hg:Gr w w'):Cb w ps x (.returned (.tuple #[.slice none 0 0,.int .i64 x])) w':=by subst hp;exact⟨none,0,rfl,Nat.le_refl _,ag.nil _ _ _ _,hg⟩
theorem Gx(l:List Sup)(a b:Rls)(d:List Drw)(ao a1 a2 a3 a4 a5:Option Addr)(cap c1 c2 c3 c4 c5:Nat)(w:World)(h:ag 5 bG w ao l)(hf:Fit l.length)(h1:ag 1 RB w a1 a.on)(h2:ag 1 RI w a2 a.level)(h3:ag 1 RB w a3 b.on)(h4:ag 1 RI w a4 b.level)(h5:ag 4 cX w a5 d)
  (k1:a.on.length<=c1) (k2:a.level.length<=c2) (k3:b.on.length<=c3) (k4:b.level.length<=c4) (f1:Fit a.on.length) (f2:Fit a.level.length) (f3:Fit b.on.length) (f4:Fit b.level.length) (f5:Fit d.length):
  Calls Tryz.prog 57 #[.slice ao l.length cap,.agg #[.slice a1 a.on.length c1,.slice a2 a.level.length c2],.agg #[.slice a3 b.on.length c3,.slice a4 b.level.length c4],.slice a5 d.length c5] w (Cb w (fV l a b d) (gj l a b d)):=by
 have H:=aa h;have H1:=aa h1;have H2:=aa h2;have H3:=aa h3;have H4:=aa h4;have H5:=aa h5;have HF:=aa hf;have F1:=aa f1;have F2:=aa f2;have F3:=aa f3;have F4:=aa f4;have F5:=aa f5;clear h h1 h2 h3 h4 h5 hf f1 f2 f3 f4 f5;have K:Hid (a.on.length<=c1/\a.level.length<=c2/\b.on.length<=c3/\b.level.length<=c4):=aa ⟨k1,k2,k3,k4⟩;clear k1 k2 k3 k4;go_enter Tryz.func57,Tryz.ntmps57;go_wp2_with fail;refine(FE l [a,b] ao (some ⟨w.heap.size+2,0,none⟩) cap 2 _ (aX H.out grr) HF.out (Nj (a1:=a1) (a2:=a2) (a3:=a3) (a4:=a4) (c1:=c1) (c2:=c2) (c3:=c3) (c4:=c4) (by simp[go_sem]) (by simp[go_sem]) (by simp[go_sem]) (by simp[go_sem]) (H1.out.giB grr) (H2.out.giI grr) (H3.out.giB grr) (H4.out.giI grr) K.out.1 K.out.2.1 K.out.2.2.1 K.out.2.2.2 F1.out F2.out F3.out F4.out) (by unfold Fit;simp)).mono ?_;rintro e w' ⟨rfl,O1,d1,rfl⟩;by_cases hb:iL l [a,b]=0
 ·have HB:=aa hb;rw[hb];have hz:=If hb;have ra:=aa (hz.2 a (by simp));have rb:=aa (hz.2 b (by simp));clear hz hb;by_cases hd:b7 l d
  ·have wH:decide (b7 l d)=true:=by simp[hd]
   have HD:=aa hd;clear hd;go_wp2_with fail;refine(qd l d ao a5 cap c5 _ (aX H.out grr) HF.out (bP H5.out grr) F5.out).mono ?_;rw[wH];clear wH;rintro e w' ⟨rfl,O2,d2,rfl⟩;by_cases ud:bi l a d
   ·have rq:decide (bi l a d)=true:=(by simp[ud]);have MA:=aa ud;clear ud;go_wp2_with fail;refine(rv l a d ao a1 a2 a5 cap c1 c2 c5 _ (aX H.out grr) HF.out (H1.out.giB grr) (H2.out.giI grr) (bP H5.out grr) F1.out F2.out F5.out).mono ?_;rw[rq];clear rq;rintro e w' ⟨rfl,O3,d3,rfl⟩;by_cases hmc:bi l b d
    ·have rq:decide (bi l b d)=true:=(by simp[hmc]);have MB:=aa hmc;clear hmc;go_wp2_with fail;refine(rv l b d ao a3 a4 a5 cap c3 c4 c5 _ (aX H.out grr) HF.out (H3.out.giB grr) (H4.out.giI grr) (bP H5.out grr) F3.out F4.out F5.out).mono ?_;rw[rq];clear rq;rintro e w' ⟨rfl,O4,d4,rfl⟩;have hE:gj l a b d=0:=(by rw[gj,if_pos HB.out,if_pos HD.out,if_pos ⟨MA.out,MB.out⟩]);have hP:fV l a b d=l6 l.length a b:=(by rw[fV,if_pos hE]);have HE:=aa hE;have HP:=aa hP;clear hE hP;have hz:=cW HD.out.1;have KD:l.length<=16:=by
      have:=hz.1;simp only[jI,not_or] at this;omega
     clear hz;go_wp2_with fail;refine(Jq a b l.length a1 a2 a3 a4 c1 c2 c3 c4 _ (H1.out.giB grr) (H2.out.giI grr) (H3.out.giB grr) (H4.out.giI grr) ra.out.2.1 ra.out.2.2.1 rb.out.2.1 rb.out.2.2.1 KD).mono ?_;rintro e W2 ⟨a6,c6,a7,c7,rfl,FG,hc7,o1,o2,hg⟩;have bY:Gr w W2:=Gr.trans grr hg;have e0:W2.cell? ⟨w.heap.size,0,none⟩=some (.slice a1 a.on.length c1):=aB hg (by simp[go_sem]);have e1:W2.cell? ⟨w.heap.size,1,none⟩=some (.slice a2 a.level.length c2):=aB hg (by simp[go_sem]);have e2:W2.cell? ⟨w.heap.size+1,0,none⟩=some (.slice a3 b.on.length c3):=aB hg (by simp[go_sem]);have e3:W2.cell? ⟨w.heap.size+1,1,none⟩=some (.slice a4 b.level.length c4):=aB hg (by simp[go_sem]);have x0:=ae e0;have x1:=ae e2;have O6:=aa (o1.low (Nat.zero_le _));have O7:=aa (o2.low (Nat.zero_le _));have G2:=aa bY;have E2:=aa e2;have E3:=aa e3;clear o1 o2 hg bY;clear O1 O2 O3 O4 d1 d2 d3 d4;go_wp2_with fail;refine(Fv a a1 a2 c1 c2 _ (H1.out.giB (G2.out.alloc _)) (H2.out.giI (G2.out.alloc _)) (by have:=ra.out.2.1;omega) (by have:=ra.out.2.2.1;omega)).mono ?_;rintro e W4 ⟨a8,c8,a9,c9,rfl,hc8,hc9,o8,o9,gy⟩;have G4:=aa gy;have O8:=aa o8;have O9:=aa o9;clear o8 o9 gy e0 e1 e2 e3 x0 x1;go_wp2_with fail;obtain⟨W3,hW3⟩:∃W3:World,Hid (W3=W2.alloc (.cells #[.slice a6 (aT a b).on.length c6,.slice a7 (aT a b).level.length c7] 29)):=⟨_,aa rfl⟩;have GW:Hid (Gr w W3):=aa (by rw[hW3.out];exact G2.out.alloc _);have Hq:Hid (Gr W2 W3):=aa (by rw[hW3.out];exact(gfl _).alloc _);have T0:Hid (W3.cell? ⟨W2.heap.size,0,none⟩=some (.slice a6 (aT a b).on.length c6)):=aa (by rw[hW3.out];simp[go_sem]);have T1:Hid (W3.cell? ⟨W2.heap.size,1,none⟩=some (.slice a7 (aT a b).level.length c7)):=aa (by rw[hW3.out];simp[go_sem]);rw[<-hW3.out] at G4 O8 O9;clear hW3;rcases Nat.eq_zero_or_pos l.length with nX|nX
     ·have hN:Hid (l6 l.length a b= []):=aa (by have:=GR l.length a b;exact List.eq_nil_of_length_eq_zero (by omega));have W5G:Hid (Gr w (W4.alloc (.cells #[.slice a8 a.on.length c8,.slice a9 a.level.length c9,.slice none 0 0] 173))):=aa ((GW.out.trans G4.out).alloc _);obtain⟨W5,hW5⟩:∃W5:World,Hid (W5=W4.alloc (.cells #[.slice a8 a.on.length c8,.slice a9 a.level.length c9,.slice none 0 0] 173)):=⟨_,aa rfl⟩;have z9:W5.cell? ⟨W4.heap.size,2,none⟩=some (.slice none 0 0):=(by rw[hW5.out];simp[go_sem]);have hph:=ae z9;rw[<-hW5.out] at W5G ⊢;clear hW5;rw[nX];go_loopw [50] (fun i wr=>i= .int .i64 0/\W5=wr) (fun i _=>0);case atStart=>exact⟨rfl,rfl⟩
      case round=>
       obtain⟨rfl,rfl⟩:=hrel;go_wp2_with fail;go_loopw [14] (fun i wr=>i= .int .i64 (-1)/\W5=wr) (fun i _=>0);case atStart=>exact⟨rfl,rfl⟩
       case round=>
        obtain⟨rfl,rfl⟩:=hrel;go_wp2_with fail;refine bodyPost_ret (v:= .tuple #[.slice none 0 0,.int .i64 0]) ?_ rfl ?_
        ·simp[results,Tryz.results57,go_sem]
        rw[HE.out,HP.out,hN.out];exact qK rfl W5G.out
     have na:a.on.length=l.length:=ra.out.2.1;have na2:a.level.length=l.length:=ra.out.2.2.1;have nb:b.on.length=l.length:=rb.out.2.1;have nb2:b.level.length=l.length:=rb.out.2.2.1;have nT:(aT a b).on.length=l.length:=(by rw[iH];exact nb);have nT2:(aT a b).level.length=l.length:=(by rw[jr];exact nb2);obtain⟨B1,rfl,hB1,q1⟩:=O8.out.at (by simp[bg];omega);obtain⟨B2,rfl,hB2,q2⟩:=O9.out.at (by simp[an];omega);obtain⟨B6,rfl,_,q6⟩:=O6.out.at (by simp[bg];omega);obtain⟨B7,rfl,_,q7⟩:=O7.out.at (by simp[an];omega);have w0:lL W3.heap.size (W4.alloc (.cells #[.slice (some ⟨B1,0,none⟩) a.on.length c8,.slice (some ⟨B2,0,none⟩) a.level.length c9,.slice none 0 0] 173)) W4.heap.size l.length B1 c8 B2 c9 (.slice none 0 0) a []:=
      ⟨by have:=Row.new W4 #[.slice (some ⟨B1,0,none⟩) a.on.length c8,.slice (some ⟨B2,0,none⟩) a.level.length c9,.slice none 0 0] 173;rw[na,na2] at this ⊢;exact this,q1.alloc _,q2.alloc _,World.ownsRow_nil _ _ _ _,G4.out.size,hB1,hB2,na,na2⟩
     have WS:=aa w0;have GS:Hid (Gr W3 (W4.alloc (.cells #[.slice (some ⟨B1,0,none⟩) a.on.length c8,.slice (some ⟨B2,0,none⟩) a.level.length c9,.slice none 0 0] 173))):=aa (G4.out.alloc _);have Q6:=aa (q6.gr Hq.out);have Q7:=aa (q7.gr Hq.out);have NT:=aa nT;have NT2:=aa nT2;have NB:=aa nb;have NB2:=aa nb2;clear q1 q2 q6 q7 w0 O6 O7 O8 O9 na na2 nT nT2 nb nb2;obtain⟨Bw,hBw⟩:∃Bw,Bw=W4.heap.size:=⟨_,rfl⟩;rw[<-hBw] at WS ⊢;obtain⟨W5,hW5⟩:∃W5:World,Hid (W5=W4.alloc (.cells #[.slice (some ⟨B1,0,none⟩) a.on.length c8,.slice (some ⟨B2,0,none⟩) a.level.length c9,.slice none 0 0] 173)):=⟨_,aa rfl⟩;rw[<-hW5.out] at WS GS ⊢;clear hW5 hBw;go_loopw [50] (fun i wr=>∃k:Nat,k<=l.length/\i= .int .i64 k/\Gr W3 wr/\∃v,lL W3.heap.size wr Bw l.length B1 c8 B2 c9 v (fE (aT a b) (a,[]) k).1 (fE (aT a b) (a,[]) k).2) (fun i _=>l.length-(intOf i).toNat);case atStart=>exact⟨0,Nat.zero_le _,rfl,GS.out,_,WS.out⟩
     case round=>
      clear WS GS;obtain⟨k,hk,rfl,hg,v,hw⟩:=hrel;have HG:=aa hg;have HW:=aa hw;clear hg hw;by_cases aA:k<l.length
      ·have t0:=aB HG.out T0.out;have t1:=aB HG.out T1.out;have kT:k<(aT a b).on.length:=(by have:=NT.out;omega);have kT2:k<(aT a b).level.length:=(by have:=NT2.out;omega);have t2:=(Q6.out.gr HG.out).bat k kT;have t3:=(Q7.out.gr HG.out).iat k kT2;rw[<-bT kT] at t2;rw[<-bV kT2] at t3;have x0:=ae t0;have x1:=ae t2;have x2:=ae t3;have g0:(0:Int)<=k:=(by omega);have g1:(k:Int)<(aT a b).on.length:=(by omega);have g2:(k:Int)<(aT a b).level.length:=(by omega);have Ih:=vB (aT a b) (a,[]) k;have DP:=uw (fE (aT a b) (a,[]) k) k (aF (aT a b) k);simp only[List.length_nil] at Ih;have L1:Hid ((fE (aT a b) (a,[]) k).2.length<=1000):=aa (by omega);have L2:Hid ((gB (fE (aT a b) (a,[]) k) k (aF (aT a b) k)).2.length<=1000):=aa (by omega);clear Ih DP;rcases Bool.eq_false_or_eq_true (aQ (aT a b) k) with ho|ho
       ·have HO:=aa ho;rw[ho] at t2;clear ho;go_wp2_with fail;refine(Ax W3 Bw l.length B1 c8 B2 c9 v _ _ k (aF (aT a b) k) _ aA HW.out HG.out L1.out).mono ?_;rintro e w2 ⟨x,v2,rfl,nA,bY⟩;have HW2:=aa nA;have HG2:=aa bY;clear nA bY t0 t1 t2 t3 x0 x1 x2;go_wp2_with fail;refine(Ej W3 Bw l.length B1 c8 B2 c9 v2 _ _ k true _ aA HW2.out HG2.out L2.out).mono ?_;rintro e w3 ⟨x3,v3,rfl,xZ,cG⟩;have HW3:=aa xZ;have HG3:=aa cG;clear xZ cG;go_wp2_with fail;go_roundw;case rel=>
         refine⟨k+1,by omega,by go_num,HG3.out,v3,?_⟩;have:=HW3.out;rw[show fE (aT a b) (a,[]) (k+1)=fT (gB (fE (aT a b) (a,[]) k) k (aF (aT a b) k)) k true by rw[fE,if_pos HO.out]];exact this
        case measure=>simp[intOf];omega
       have HO:=aa ho;rw[ho] at t2;clear ho;go_wp2_with fail;go_roundw;case rel=>refine⟨k+1,by omega,by go_num,HG.out,v,?_⟩;rw[show fE (aT a b) (a,[]) (k+1)=fE (aT a b) (a,[]) k by rw[fE,if_neg (by rw[HO.out];decide)]];exact HW.out
       case measure=>simp[intOf];omega
      have hkn:k=l.length:=(by omega);subst hkn;obtain⟨w1,rfl⟩:∃w1:World,w1=wr:=⟨_,rfl⟩;obtain⟨s0,Hs⟩:∃s0,s0=fE (aT a b) (a,[]) l.length:=⟨_,rfl⟩;have hl0:Hid (s0.2.length<=32):=aa (by have:=vB (aT a b) (a,[]) l.length;rw[Hs];simp only[List.length_nil] at this;omega);rw[<-Hs] at HW;have HS0:=aa Hs;clear Hs aA;go_wp2_with fail;go_loopw [14] (fun i wr=>∃m:Nat,m<=l.length/\i= .int .i64 ((l.length:Int)-1-m)/\Gr W3 wr/\∃v,lL W3.heap.size wr Bw l.length B1 c8 B2 c9 v (cE b l.length s0 m).1 (cE b l.length s0 m).2) (fun i _=>(intOf i+1).toNat);case atStart=>exact⟨0,Nat.zero_le _,by simp,HG.out,_,HW.out⟩
      case round=>
       clear HW HG;obtain⟨m,hm,rfl,hg,v',hw⟩:=hrel;have HG:=aa hg;have HW:=aa hw;clear hg hw;by_cases aA:m<l.length
       ·obtain⟨j,hj⟩:∃j,j=l.length-1-m:=⟨_,rfl⟩;have J:=aa hj;have lA:j<l.length:=(by omega);rw[show(l.length:Int)-1-m=(j:Int) by omega];clear hj;have jb:j<b.on.length:=(by have:=NB.out;omega);have jb2:j<b.level.length:=(by have:=NB2.out;omega);have t0:=aB (Hq.out.trans HG.out) E2.out;have t1:=aB (Hq.out.trans HG.out) E3.out;obtain⟨v1,w1,rfl,s1⟩:=(H3.out.giB (GW.out.trans HG.out)).one j jb;obtain⟨v2,w2,rfl,s2,s2w⟩:=(H4.out.giI (GW.out.trans HG.out)).one j jb2;unfold RB at s1;rw[<-bT jb] at s1;rw[<-bV jb2] at s2;have x0:=ae t0;have x1:=ae s1;have x2:=ae s2;have g0:(0:Int)<=j:=(by omega);have g1:(j:Int)<b.on.length:=(by omega);have g2:(j:Int)<b.level.length:=(by omega);clear s2w;have Ih:=zj b l.length s0 m;have DP:=xm (cE b l.length s0 m) j false;have hl3:=hl0.out;have L1:Hid ((cE b l.length s0 m).2.length<=1000):=aa (by omega);have L2:Hid ((fT (cE b l.length s0 m) j false).2.length<=1000):=aa (by omega);clear Ih DP hl3;rcases Bool.eq_false_or_eq_true (aQ b j) with ho|ho
        ·have HO:=aa ho;rw[ho] at s1;clear ho;go_wp2_with fail;refine(Ax W3 Bw l.length B1 c8 B2 c9 v' _ _ j (aF b j) _ lA HW.out HG.out L1.out).mono ?_;rintro e w3 ⟨x3,v3,rfl,xZ,cG⟩;have HW3:=aa xZ;have HG3:=aa cG;clear xZ cG;go_wp2_with fail;go_roundw;case rel=>
          refine⟨m+1,by omega,by have:=J.out;go_num,HG3.out,v3,?_⟩;have:=HW3.out;rw[show cE b l.length s0 (m+1)=gB (cE b l.length s0 m) j (aF b j) by rw[cE,<-J.out,if_pos HO.out]];exact this
         case measure=>simp[intOf]
        have HO:=aa ho;rw[ho] at s1;clear ho;go_wp2_with fail;refine(Ej W3 Bw l.length B1 c8 B2 c9 v' _ _ j false _ lA HW.out HG.out L1.out).mono ?_;rintro e w3 ⟨x3,v3,rfl,xZ,cG⟩;have HW3:=aa xZ;have HG3:=aa cG;clear xZ cG;clear t0 t1 s1 s2 x0 x1 x2;have t1:=aB (Hq.out.trans HG3.out) E3.out;obtain⟨v2',w2',ee,s2,s2w⟩:=(H4.out.giI (GW.out.trans HG3.out)).one j jb2;cases ee
        rw[<-bV jb2] at s2;have x0:=ae t1;have x2:=ae s2;clear s2w;go_wp2_with fail;refine(Ax W3 Bw l.length B1 c8 B2 c9 v3 _ _ j (aF b j) _ lA HW3.out HG3.out L2.out).mono ?_;rintro e w4 ⟨x4,v4,rfl,hw4,gy⟩;have HW4:=aa hw4;have HG4:=aa gy;clear hw4 gy;go_wp2_with fail;go_roundw;case rel=>refine⟨m+1,by omega,by have:=J.out;go_num,HG4.out,v4,?_⟩;have:=HW4.out;rw[show cE b l.length s0 (m+1)=gB (fT (cE b l.length s0 m) j false) j (aF b j) by rw[cE,<-J.out,if_neg (by rw[HO.out];decide)]];exact this
        case measure=>simp[intOf]
       have hmn:m=l.length:=(by omega);subst hmn;rw[show(l.length:Int)-1-l.length= -1 by omega];have dw:(cE b l.length s0 l.length).2=l6 l.length a b:=(by rw[HS0.out];rfl);have hw:=HW.out;rw[dw] at hw;obtain⟨pa,pc,rfl,hpc,eX⟩:=wA hw.pl (Es ra.out rb.out (by omega));have p0:=hw.box.cell 2 (by simp);have p1:=hw.box.has;simp only[List.getElem_cons_zero,List.getElem_cons_succ] at p0;have SL:=aa eX;clear eX hw dw;go_wp2_with fail;refine bodyPost_ret (v:= .tuple #[.slice pa (l6 l.length a b).length pc,.int .i64 0]) ?_ rfl ?_
       ·simp[results,Tryz.results57,go_sem]
       rw[HE.out,HP.out];exact⟨pa,pc,rfl,hpc,SL.out,GW.out.trans HG.out⟩
    have rq:decide (bi l b d)=false:=(by simp[hmc]);have MB:=aa hmc;clear hmc;go_wp2_with fail;refine(rv l b d ao a3 a4 a5 cap c3 c4 c5 _ (aX H.out grr) HF.out (H3.out.giB grr) (H4.out.giI grr) (bP H5.out grr) F3.out F4.out F5.out).mono ?_;rw[rq];clear rq;rintro e w' ⟨rfl,O4,d4,rfl⟩;have hE:gj l a b d=7:=(by rw[gj,if_pos HB.out,if_pos HD.out,if_neg (fun q=>MB.out q.2)]);have hP:fV l a b d= []:=(by rw[fV,if_neg (by omega)]);have HE:=aa hE;have HP:=aa hP;clear hE hP;go_wp2_with fail;refine bodyPost_ret (v:= .tuple #[.slice none 0 0,.int .i64 7]) ?_ rfl ?_
    ·simp[results,Tryz.results57,go_sem]
    rw[HE.out,HP.out];exact qK rfl grr
   have rq:decide (bi l a d)=false:=by simp[ud]
   have MA:=aa ud;clear ud;go_wp2_with fail;refine(rv l a d ao a1 a2 a5 cap c1 c2 c5 _ (aX H.out grr) HF.out (H1.out.giB grr) (H2.out.giI grr) (bP H5.out grr) F1.out F2.out F5.out).mono ?_;rw[rq];clear rq;rintro e w' ⟨rfl,O3,d3,rfl⟩;have hE:gj l a b d=7:=by rw[gj,if_pos HB.out,if_pos HD.out,if_neg (fun q=>MA.out q.1)]
   have hP:fV l a b d= []:=by rw[fV,if_neg (by omega)]
   have HE:=aa hE;have HP:=aa hP;clear hE hP;go_wp2_with fail;refine bodyPost_ret (v:= .tuple #[.slice none 0 0,.int .i64 7]) ?_ rfl ?_
   ·simp[results,Tryz.results57,go_sem]
   rw[HE.out,HP.out];exact qK rfl grr
  have wH:decide (b7 l d)=false:=by simp[hd]
  have hE:gj l a b d=1:=by rw[gj,if_pos HB.out,if_neg hd]
  have hP:fV l a b d= []:=by rw[fV,if_neg (by omega)]
  have HE:=aa hE;have HP:=aa hP;clear hd hE hP;go_wp2_with fail;refine(qd l d ao a5 cap c5 _ (aX H.out grr) HF.out (bP H5.out grr) F5.out).mono ?_;rw[wH];rintro e w' ⟨rfl,O2,d2,rfl⟩;go_wp2_with fail;refine bodyPost_ret (v:= .tuple #[.slice none 0 0,.int .i64 1]) ?_ rfl ?_
  ·simp[results,Tryz.results57,go_sem]
  rw[HE.out,HP.out];exact qK rfl grr
 have hE:gj l a b d=iL l [a,b]:=by rw[gj,if_neg hb]
 have hP:fV l a b d= []:=by rw[fV,if_neg (by omega)]
 have HE:=aa hE;have HP:=aa hP;clear hE hP;have AH:(iL l [a,b] !=0)=true:=by simpa using hb
 clear hb;go_wp2_with fail;refine bodyPost_ret (v:= .tuple #[.slice none 0 0,.int .i64 (iL l [a,b])]) ?_ rfl ?_
 ·simp[results,Tryz.results57,go_sem]
 rw[HE.out,HP.out];exact qK rfl grr
theorem Xd(W:World)(O:Array Obj)(d k:Nat)(hk:W.heap.size<=k):(xt W O d).heap[k]?=O[k-W.heap.size]?:=by simp only[xt];rw[Array.getElem?_append_right hk]
theorem bt.far{base:Nat}{W W':World}{O:Array Obj}{d d' T:Nat}{vs:List Value}{a:Option Addr}(hs:W.heap.size=W'.heap.size)(h:bt base (xt W O d) T vs a)(hb:W.heap.size<=base):bt base (xt W' O d') T vs a:=by
 rcases h with h|⟨B,e,hB,r,h⟩
 ·exact .inl h
 refine .inr ⟨B,e,hB,r,?_⟩;unfold Row at*;rw[Xd _ _ _ _ (by omega)] at h ⊢;rw[<-hs];exact h
def xL(w:World)(r:Rls)(x:Int)(e:Ending)(w':World):Prop:=
 ∃a1 a2 c1 c2,e= .returned (.tuple #[.agg #[.slice a1 r.on.length c1,.slice a2 r.level.length c2],.int .i64 x])/\r.on.length<=c1/\r.level.length<=c2/\ag 1 RB w' a1 r.on/\ag 1 RI w' a2 r.level/\Gr w w'
theorem Ij{w w':World}{x:Int}(hg:Gr w w'):xL w m7 x (.returned (.tuple #[.agg #[.slice none 0 0,.slice none 0 0],.int .i64 x])) w':=
 ⟨none,none,0,0,rfl,Nat.le_refl _,Nat.le_refl _,ag.nil _ _ _ _,ag.nil _ _ _ _,hg⟩
noncomputable def ip(l:List Sup)(a b:Rls):Rls:=if iL l [a,b]=0 then aT a b else m7
theorem Gs{r:Rls}(h:∀k,aK (aF r k))(k:Nat)(hk:k<r.level.length):aK r.level[k]:=by rw[<-bV hk];exact h k
theorem Cx(l:List Sup)(a b:Rls)(ao a1 a2 a3 a4:Option Addr)(cap c1 c2 c3 c4:Nat)(w:World)(h:ag 5 bG w ao l)(hf:Fit l.length)(h1:ag 1 RB w a1 a.on)(h2:ag 1 RI w a2 a.level)(h3:ag 1 RB w a3 b.on)(h4:ag 1 RI w a4 b.level)
  (k1:a.on.length<=c1) (k2:a.level.length<=c2) (k3:b.on.length<=c3) (k4:b.level.length<=c4) (f1:Fit a.on.length) (f2:Fit a.level.length) (f3:Fit b.on.length) (f4:Fit b.level.length):
  Calls Tryz.prog 56 #[.slice ao l.length cap,.agg #[.slice a1 a.on.length c1,.slice a2 a.level.length c2],.agg #[.slice a3 b.on.length c3,.slice a4 b.level.length c4]] w (xL w (ip l a b) (iL l [a,b])):=by
 have H:=aa h;have H1:=aa h1;have H2:=aa h2;have H3:=aa h3;have H4:=aa h4;have HF:=aa hf;have F1:=aa f1;have F2:=aa f2;have F3:=aa f3;have F4:=aa f4;clear h h1 h2 h3 h4 hf f1 f2 f3 f4;have K:Hid (a.on.length<=c1/\a.level.length<=c2/\b.on.length<=c3/\b.level.length<=c4):=aa ⟨k1,k2,k3,k4⟩;clear k1 k2 k3 k4;go_enter Tryz.func56,Tryz.ntmps56;go_wp2_with fail;refine(FE l [a,b] ao _ cap 2 _ (aX H.out grr) HF.out (Nj (a1:=a1) (a2:=a2) (a3:=a3) (a4:=a4) (c1:=c1) (c2:=c2) (c3:=c3) (c4:=c4) (by simp[go_sem]) (by simp[go_sem]) (by simp[go_sem]) (by simp[go_sem]) (H1.out.giB grr) (H2.out.giI grr) (H3.out.giB grr) (H4.out.giI grr) K.out.1 K.out.2.1 K.out.2.2.1 K.out.2.2.2 F1.out F2.out F3.out F4.out) (by unfold Fit;simp)).mono ?_;rintro e w' ⟨rfl,O1,d1,rfl⟩;by_cases hb:iL l [a,b]=0
 ·have HB:=aa hb;rw[hb];have hz:=If hb;have ra:=aa (hz.2 a (by simp));have rb:=aa (hz.2 b (by simp));have KD:l.length<=16:=by
   have:=(cW hz.1).1;simp only[jI,not_or] at this;omega
  clear hz hb;go_wp2_with fail;refine(Jq a b l.length a1 a2 a3 a4 c1 c2 c3 c4 _ (H1.out.giB grr) (H2.out.giI grr) (H3.out.giB grr) (H4.out.giI grr) ra.out.2.1 ra.out.2.2.1 rb.out.2.1 rb.out.2.2.1 KD).mono ?_;rintro e w' ⟨a6,c6,a7,c7,rfl,FG,hc7,o1,o2,O2,d2,rfl⟩;have O6:=aa o1;have O7:=aa o2;clear o1 o2;go_wp2_with fail;refine bodyPost_ret (v:= .tuple #[.agg #[.slice a6 (aT a b).on.length c6,.slice a7 (aT a b).level.length c7],.int .i64 0]) ?_ rfl ?_
  ·simp[results,Tryz.results56,go_sem]
  have hP:ip l a b=aT a b:=by rw[ip,if_pos HB.out]
  rw[hP,HB.out];have q1:=O6.out;have q2:=O7.out;simp only[xt_xt,xt_drew] at q1 q2;refine⟨a6,a7,c6,c7,rfl,FG,hc7,(bt.far (by simp) q1 (by simp<;>omega)).slB,(bt.far (by simp) q2 (by simp<;>omega)).slI (Gs (wN (lz ra.out) (lz rb.out))),grr⟩
 have AH:(iL l [a,b] !=0)=true:=by simpa using hb
 have HB:=aa hb;clear hb;go_wp2_with fail;refine bodyPost_ret (v:= .tuple #[.agg #[.slice none 0 0,.slice none 0 0],.int .i64 (iL l [a,b])]) ?_ rfl ?_
 ·simp[results,Tryz.results56,go_sem]
 rw[ip,if_neg HB.out];exact Ij grr
noncomputable def Sg(r:Rls)(p:Wri):Rls:=if p.kind=2 then⟨r.on,r.level.set p.unit.toNat p.value⟩ else⟨r.on.set p.unit.toNat (p.value==1),r.level⟩
def GivesRo(w:World)(r:Rls)(x:Int)(e:Ending)(w':World):Prop:=
 ∃a1 a2 c1 c2,e= .returned (.tuple #[.agg #[.slice a1 r.on.length c1,.slice a2 r.level.length c2],.int .i64 x])/\r.on.length<=c1/\r.level.length<=c2/\bt w.heap.size w' 4 (bg r.on) a1/\bt w.heap.size w' 3 (an r.level) a2/\Gr w w'
theorem IG(r:Rls)(a1 a2:Option Addr)(c1 c2:Nat)(w:World)(h1:ag 1 RB w a1 r.on)(h2:ag 1 RI w a2 r.level)(p1:0<r.on.length)(p2:0<r.level.length)(f1:r.on.length<=1000000)(f2:r.level.length<=1000000):
  Calls Tryz.prog 65 #[.agg #[.slice a1 r.on.length c1,.slice a2 r.level.length c2]] w (pX w r):=by
 have H1:=aa h1;have H2:=aa h2;obtain⟨b1,o1,rfl,_⟩:=h1.one 0 p1;obtain⟨b2,o2,rfl,_⟩:=h2.one 0 p2;clear h1 h2;obtain⟨i0,hi,dt,da,cN⟩:=info_parts eS;obtain⟨j0,hj,kN,ka,lg⟩:=info_parts pe;go_enter Tryz.func65,Tryz.ntmps65;go_wp2_with fail
 go_region_law (first
  |(refine mm _ rfl _ _ 27 rfl 4 j0 (.bool false) 1 Tryz.underlying27 hj kN ka lg _ ⟨b1,o1,none⟩ r.on.length c1 (bg r.on) (by simp[Act.eval,Act.put];rfl) (by simp[Act.eval,Act.put]) (by simp[bg]) (AB (H1.out.giB grr)) p1 f1 (by omega) _ rfl ?_;intro cO ZO hcO)
  |(refine mm _ rfl _ _ 22 rfl 3 i0 (.int .i64 0) 8 Tryz.underlying22 hi dt da cN _ ⟨b2,o2,none⟩ r.level.length c2 (an r.level) (by simp[Act.eval,Act.put];rfl) (by simp[Act.eval,Act.put]) (by simp[an]) (rA (H2.out.giI grr)) p2 f2 (by omega) _ rfl ?_;intro cL ZL hcL))
 all_goals go_wp2_with fail
 all_goals
  refine bodyPost_ret (by simp[results,Tryz.results65,go_sem];exact rfl) rfl ?_;refine⟨_,_,_,_,rfl,hcO,hcL,bt.row (B:=_) ?_ ?_,bt.row (B:=_) ?_ ?_,?_⟩
 all_goals (try omega)
 all_goals (repeat(first|with_reducible exact gfl _|with_reducible refine Gr.drew ?_|with_reducible refine Gr.alloc _ ?_|(with_reducible refine yP _ _ _ _ _ ?_;simp)|with_reducible refine bd.drew ?_|with_reducible refine bd.alloc _ ?_))
theorem p9{l:List Sup}{r:Rls}(h:bL l r):l.length<=16:=by have hz:=(cW h.1).1;simp only[jI,not_or] at hz;omega
theorem Ws:(Tryz.prog.info? 81).map (fun i=>(i.zero,i.size,i.bytes))=some (some (.agg #[.int .i64 0,.slice none 0 0,.int .i64 0,.int .i64 0,.bool false]),5,56):=by kernel_rfl
abbrev STZ:=Sup×Option Addr×Nat
def mR(t:STZ):List Value:= [.int .i64 t.1.parent,.slice t.2.1 t.1.levels.length t.2.2,.int .i64 t.1.dropout,.int .i64 t.1.capacity,.bool t.1.always]
theorem Ty(t:STZ):(mR t).length=5:=rfl
theorem zr(t:STZ):∀u∈mR t,u.oneCell'=true:=by intro u hu;simp only[mR,List.mem_cons,List.not_mem_nil,or_false] at hu;rcases hu with rfl|rfl|rfl|rfl|rfl<;>rfl
def sups(ts:List STZ):List Sup:=ts.map fun t=>t.1
def SJ(base:Nat)(w:World)(ts:List STZ):Prop:=∀t∈ts,bt base w 3 (an t.1.levels) t.2.1/\t.1.levels.length<=t.2.2
theorem Oq{ts:List STZ}(h:gz (sups ts))(hl:∀t∈ts,t.1.levels.length<=16)(hn:ts.length<=16):chk (sups ts)=0:=by
 refine Fm ?_ h;rintro(q|⟨k,hk,q⟩)
 ·simp[sups] at q;omega
 have jP:k<ts.length:=by simpa [sups] using hk
 have:=hl ts[k] (List.getElem_mem jP);simp[sups] at q;omega
theorem ue{ts:List STZ}{t:STZ}(h:gz (sups ts))(ht:te t.1 ts.length):gz (sups (ts++ [t])):=by
 intro k hk;have jP:k<ts.length+1:=by simpa [sups] using hk
 by_cases e:k<ts.length
 ·obtain⟨q,h'⟩:=h k (by simpa [sups] using e);refine⟨hk,?_⟩;have:(sups (ts++ [t]))[k]=(sups ts)[k]:=by simp[sups,List.getElem_append,e]
  rw[this];exact h'
 have e:k=ts.length:=by omega
 subst e;refine⟨hk,?_⟩;have:(sups (ts++ [t]))[ts.length]=t.1:=by simp[sups]
 rw[this];exact ht
theorem KR{l:List Sup}(h:gz l)(k:Nat)(hk:k<l.length)(j:Nat)(hj:j<l[k].levels.length):1<=l[k].levels[j]/\l[k].levels[j]<=5000:=by obtain⟨q,h'⟩:=h k hk;obtain⟨q',h1,h2,_⟩:=h'.2 j hj;exact⟨h1,h2⟩
theorem Od{base:Nat}{w:World}{v:Value}{ts:List STZ}(h:w.ownsRow base 81 5 v ts.length (ts.flatMap mR))(hr:SJ base w ts)(hok:gz (sups ts))(hl:∀t∈ts,t.1.levels.length<=16)(hn:0<ts.length)(gc:ts.length<=16):
  ∃a c,v= .slice a ts.length c/\ts.length<=c/\ag 5 bG w a (sups ts):=by
 obtain⟨g,cap,rfl,hc,hb,lG⟩:=fM h hn;refine⟨_,cap,rfl,hc,fun k hk=>⟨g,0,rfl,?_⟩⟩;have jP:k<ts.length:=by simpa [sups] using hk
 have key:∀j,(hj:j<5)->w.cell? ⟨g,0+k*5+j,none⟩=(mR ts[k])[j]?:=fun j hj=>by rw[<-nJ mR 5 Ty ts k j jP hj,Nat.zero_add];exact lG _ (by omega)
 have hs:(sups ts)[k]=ts[k].1:=by simp[sups]
 obtain⟨q,hso⟩:=hok k hk;obtain⟨r1,r2⟩:=hr ts[k] (List.getElem_mem jP);have Cu:=hl ts[k] (List.getElem_mem jP);rw[hs];rw[hs] at hso;have hd:=hso.1;unfold nt at hd;refine⟨⟨key 0 (by omega),by unfold aK;omega⟩,⟨ts[k].2.1,ts[k].2.2,key 1 (by omega),r2,by unfold Fit;omega,?_⟩,⟨key 2 (by omega),by unfold aK;omega⟩,⟨key 3 (by omega),by unfold aK;omega⟩,key 4 (by omega)⟩;refine r1.slI fun j hj=>?_;have:=KR hok k hk j (by rw[hs];exact hj);simp only[hs] at this;unfold aK;omega
def IS(lv:List Int)(x:Int):Prop:=(∀j,j<lv.length->Gn lv j)/\(∀y∈lv,y<x)/\600<=x/\x<=5700
theorem IS.snoc{lv:List Int}{x:Int}(h:IS lv x)(hx:x<=5000)(dx:Int)(h1:50<=dx)(h2:dx<=700):IS (lv++ [x]) (x+dx):=by
 obtain⟨h3,h4,h5,h6⟩:=h;refine⟨fun j hj=>?_,fun y hy=>?_,by omega,by omega⟩
 ·have qH:j<lv.length+1:=by simpa using hj
  by_cases e:j<lv.length
  ·obtain⟨q,q1,q2,q3⟩:=h3 j e;refine⟨hj,by rw[List.getElem_append_left e];exact q1,by rw[List.getElem_append_left e];exact q2,fun h0=>?_⟩;rw[List.getElem_append_left (by omega),List.getElem_append_left e];exact q3 h0
  have e:j=lv.length:=by omega
  subst e;refine⟨hj,by simp;omega,by simp;omega,fun h0=>?_⟩;rw[List.getElem_append_left (by omega)];simp only[List.getElem_append_right (Nat.le_refl _),Nat.sub_self,List.getElem_cons_zero];exact h4 _ (List.getElem_mem _)
 rcases List.mem_append.1 hy with q|q
 ·have:=h4 y q;omega
 rw[List.mem_singleton.1 q];omega
def Sl(w:World)(b len n:Nat)(e:Ending)(w':World):Prop:=
 ∃l ao cap,e= .returned (.slice ao l.length cap)/\chk l=0/\1<=l.length/\l.length<=n/\l.length<=cap/\gP b w' (fun W=>ag 5 bG W ao l)/\Mv b len w w'
theorem wM(w:World)(x0 x1 x2 x3 x4:Value)(t:TypeId):∀j u,[x0,x1,x2,x3,x4][j]?=some u->(w.alloc (.cells #[x0,x1,x2,x3,x4] t)).cell? ((⟨w.heap.size,0,none⟩:Addr).add j)=some u:=by
 intro j u hu;obtain⟨hj,hu⟩:=List.getElem?_eq_some_iff.1 hu;have:(⟨w.heap.size,0,none⟩:Addr).add j=⟨w.heap.size,j,none⟩:=by unfold Addr.add;split<;>simp_all
 rw[this,(Row.new w #[x0,x1,x2,x3,x4] t).cell j hj,<-hu]
theorem JO(w:World)(b len n:Nat)(ht:Tp w b len)(hn:1<=n)(gc:n<=16):
  Calls Tryz.prog 46 #[.pointer (some ⟨b,0,none⟩),.int .i64 n] w (Sl w b len n):=by
 have TT:=aa ht;have hb:=ht.has;have HB:=aa hb;clear ht hb;obtain⟨i0,hi,dt,da,cN⟩:=info_parts eS;obtain⟨j0,hj,kN,ka,lg⟩:=info_parts Ws;go_enter Tryz.func46,Tryz.ntmps46;go_wp2_with fail;refine(mZ _ b len _ _ TT.out (by omega) (by omega) (by omega)).mono ?_;rintro e w1 ⟨x,rfl,⟨jm,ly⟩,hm⟩;obtain⟨m,rfl⟩:=Int.eq_ofNat_of_zero_le (show 0<=x by omega);have M1:=aa hm;clear hm;go_wp2_with fail;go_loopw [5,6] (fun s5 s6 wr=>∃(ts:List STZ) (m:Nat),s6= .int .i64 m/\Mv b len w wr/\wr.ownsRow w.heap.size 81 5 s5 ts.length (ts.flatMap mR)/\SJ w.heap.size wr ts/\gz (sups ts)/\(∀t∈ts,t.1.levels.length<=16)/\ts.length+m<=n/\1<=ts.length+m) (fun _ s6 _=>(intOf s6).toNat);case atStart=>exact⟨[],m,rfl,M1.out,World.ownsRow_nil _ _ _ _,fun t h=>absurd h List.not_mem_nil,fun k h=>absurd h (by simp[sups]),fun t h=>absurd h List.not_mem_nil,by simp;omega,by simp;omega⟩
 case round=>
  clear M1;obtain⟨ts,m,rfl,hm,ho,hr,hok,sE,mI,tC⟩:=hrel;have HM:=aa hm;have HO:=aa ho;have HR:=aa hr;have OK:=aa hok;have SM:=aa sE;obtain⟨a5,c5,rfl⟩:=be ho;clear hm ho hr hok sE;by_cases h0:0<m
  ·have g0:(0:Int)<m:=by omega
   go_wp2_with fail;refine(mZ _ b len _ _ (HM.out.tp TT.out) (by omega) (by omega) (by omega)).mono ?_;rintro e w2 ⟨par,rfl,⟨Io,hp2⟩,rC⟩;have M2:=aa (HM.out.trans HB.out rC);have MW2:=aa rC;clear rC;go_wp2_with fail;refine(dG w2 b len (M2.out.tp TT.out) _ rfl _ 5 [0,100,500,1000,10000] (gv 0 10000) rfl rfl (by omega) (by omega) (by simp[gv])).mono ?_;rintro e w3 ⟨cp,rfl,⟨PH,Pm⟩,iz⟩;have M3:=aa (M2.out.trans HB.out iz);have MW3:=aa (MW2.out.trans (by have:=HM.out.size;have:=HB.out;omega) iz);clear iz;go_wp2_with fail;refine(k7 w3 b len _ (M3.out.tp TT.out) (by omega) (by omega)).mono ?_;rintro e w4 ⟨al,rfl,⟨hal1,hal2⟩,qz⟩;have M4:=aa (M3.out.trans HB.out qz);have MW4:=aa (MW3.out.trans (by have:=HM.out.size;have:=HB.out;omega) qz);clear qz M2 M3 MW2 MW3 hal1 hal2;obtain⟨alw,halw⟩:∃alw:Bool,(al==0)=alw:=⟨_,rfl⟩;go_wp2_with fail
   try rw[halw]
   clear halw;refine(dG (w4.alloc (.cells #[.int .i64 par,.slice none 0 0,.int .i64 0,.int .i64 cp,.bool alw] 81)) b len ((M4.out.tp TT.out).gr ((gfl _).alloc _)) _ (by simp) _ 5 [600,800,1100,1800,3000] (gv 600 3000) rfl rfl (by omega) (by omega) (by simp[gv])).mono ?_;rintro e w5 ⟨x0,rfl,⟨hx01,hx02⟩,jn⟩;have M5:=aa ((Mv.of_gr (M4.out.tp TT.out) ((gfl w4).alloc _)).trans (M4.out.tp TT.out).has jn);have R5:=aa (jn.row (Row.new w4 _ _) (by have:=(M4.out.tp TT.out).has;omega));clear jn;go_wp2_with fail;refine(mZ w5 b len _ _ (M5.out.tp (M4.out.tp TT.out)) (by omega) (by omega) (by omega)).mono ?_;rintro e w6 ⟨k0,rfl,⟨hk01,hk02⟩,fS⟩;have M6:=aa (M5.out.trans (M4.out.tp TT.out).has fS);have R6:=aa (fS.row R5.out (by have:=(M4.out.tp TT.out).has;omega));clear fS M5 R5;obtain⟨k1,rfl⟩:=Int.eq_ofNat_of_zero_le (show 0<=k0 by omega);obtain⟨m',rfl⟩:∃m',m=m'+1:=⟨m-1,by omega⟩;obtain⟨wa,rfl⟩:∃wa:World,wa=wr:=⟨_,rfl⟩;go_wp2_with fail;go_loopw [8,9] (fun s8 s9 wr=>∃(lv:List Int) (vL:Value) (x:Int) (k:Nat),s8= .int .i64 x/\s9= .int .i64 k/\Mv b len w4 wr/\Row wr w4.heap.size 81 [.int .i64 par,vL,.int .i64 0,.int .i64 cp,.bool alw]/\wr.ownsRow w4.heap.size 3 1 vL lv.length (an lv)/\IS lv x/\lv.length+k<=5/\(lv.length=0->1<=k/\x<=5000)) (fun _ s9 _=>(intOf s9).toNat);case atStart=>exact⟨[],.slice none 0 0,x0,k1,rfl,rfl,M6.out,R6.out,World.ownsRow_nil _ _ _ _,⟨fun j h=>absurd h (by simp),fun y h=>absurd h List.not_mem_nil,by omega,by omega⟩,by simp;omega,fun _=>⟨by omega,by omega⟩⟩
   case round=>
    clear M6 R6;obtain⟨lv,vL,x,k,rfl,rfl,hm,hr,ho,Hn,lX,bS⟩:=hrel;have MI:=aa hm;have RI':=aa hr;have OI:=aa ho;have LI:=aa Hn;have lx1:=Hn.2.2.1;have lx2:=Hn.2.2.2;have r1:=hr.cell 1 (by simp);have r0:=hr.cell 0 (by simp);simp only[List.getElem_cons_zero,List.getElem_cons_succ] at r0 r1;have r2:=hr.free 1;have r3:=hr.free 2;have rh:=hr.has;have bw:=(M4.out.tp TT.out).has;clear hm hr ho Hn;by_cases hc:0<k/\x<=5000
    ·have gk:(0:Int)<k:=(by omega);have gx:x<=5000:=hc.2;clear bS;obtain⟨k',rfl⟩:∃k',k=k'+1:=⟨k-1,by omega⟩;clear hc;go_wp2_with (at_builtin;refine wpList_append_own _ rfl _ _ 22 rfl w4.heap.size 3 i0 (.int .i64 0) 1 8 Tryz.underlying22 hi dt da cN rfl (by decide) vL lv.length (an lv) rfl (OI.out.alloc _) ⟨wr.heap.size,0,none⟩ 1 1 (an [x]) rfl rfl (cell_one_new _ _ _) (gL _) (by unfold maxLen;omega) (by omega) (by have:=MI.out.size;simp;omega) ?_;intro v' wy bI aE eJ;have RY:=aa ((RI'.out.alloc _).grown aE (aJ OI.out RI'.out.s (by decide)));have MY:=aa ((MI.out.alloc _).grown aE (fun k e=>(OI.out.lt k e).1));have OY:=aa bI;obtain⟨g',cap',rfl⟩:=ownsRow_succ bI;have y1:=RY.out.cell 1 (by simp);have y2:=RY.out.free 1;have yh:=RY.out.has;clear bI aE eJ);have RZ:=aa (RY.out.set 1 (.slice (some ⟨g',0,none⟩) (lv.length+1) cap'));have MZ:Hid (Mv b len w4 (wy.setCell ⟨w4.heap.size,1,none⟩ (.slice (some ⟨g',0,none⟩) (lv.length+1) cap'))):=aa (MY.out.setc (Nat.le_refl _));have OZ:=aa (l7 (o:=1) (x:= .slice (some ⟨g',0,none⟩) (lv.length+1) cap') OY.out RY.out.s (by decide));refine(dG (wy.setCell ⟨w4.heap.size,1,none⟩ (.slice (some ⟨g',0,none⟩) (lv.length+1) cap')) b len (MZ.out.tp (M4.out.tp TT.out)) _ (by rw[bQ]) _ 4 [50,100,300,700] (gv 50 700) rfl rfl (by omega) (by omega) (by simp[gv])).mono ?_;rintro e wq ⟨dx,rfl,⟨kf,hd2⟩,xd⟩;have MQ:=aa (MZ.out.trans bw xd);have RQ:=aa (xd.row RZ.out (by omega));have OQ:=aa (xd.owns OZ.out bw);clear xd y1 y2 yh;go_wp2_with fail;go_roundw;case rel=>
      refine⟨lv++ [x],_,x+dx,k',rfl,by go_num,MQ.out,RQ.out,?_,LI.out.snoc gx dx kf hd2,by simp;omega,fun q=>absurd q (by simp)⟩;have:=OQ.out;rw[List.length_append];simpa [an] using this
     case measure=>simp[intOf]
    have ke:1<=lv.length:=by
     rcases Nat.eq_zero_or_pos lv.length with q|q
     ·have:=bS q;exact absurd ⟨by omega,this.2⟩ hc
     exact q
    have vz:(decide (0<(k:Int))&&decide (x<=5000))=false:=by
     rw[Bool.and_eq_false_iff,decide_eq_false_iff_not,decide_eq_false_iff_not];by_cases q:0<k
     ·exact .inr (fun q2=>hc ⟨q,q2⟩)
     exact .inl (by omega)
    clear bS;by_cases hp:0<=par
    ·have gp:=hp;rcases Nat.eq_zero_or_pos k with gH|gH
     ·subst gH;go_wp2_with fail;refine(dG wr b len (MI.out.tp (M4.out.tp TT.out)) _ rfl _ 4 [0,0,100,300] (gv 0 300) rfl rfl (by omega) (by omega) (by simp[gv])).mono ?_;rintro e wq ⟨dr,rfl,⟨kf,hd2⟩,xd⟩;have MQ:=aa (MI.out.trans bw xd);have RQ:=aa (xd.row RI'.out (by omega));have OQ:=aa (xd.owns OI.out bw);have z2:=RQ.out.cell 2 (by simp);have z3:=RQ.out.free 2;have zh:=RQ.out.has;clear xd r0 r1 r2 r3 rh;obtain⟨aL,cL,rfl,hcL,oL⟩:=fX (l7 (o:=2) (x:= .int .i64 dr) OQ.out RQ.out.s (by decide));have OL:=aa oL;have RX:=aa (show Row (wq.setCell ⟨w4.heap.size,2,none⟩ (.int .i64 dr)) w4.heap.size 81 [.int .i64 par,.slice aL lv.length cL,.int .i64 dr,.int .i64 cp,.bool alw] from RQ.out.set 2 (.int .i64 dr));have MX:=aa (MQ.out.setc (o:=2) (v:= .int .i64 dr) (Nat.le_refl _));have OX:=aa ((Mv.owns (MW4.out.trans (by have:=HM.out.size;have:=HB.out;omega) MX.out) HO.out HB.out));have f0:=RX.out.cell 0 (by simp);have f1:=RX.out.cell 1 (by simp);have f2:=RX.out.cell 2 (by simp);have f3:=RX.out.cell 3 (by simp);have f4:=RX.out.cell 4 (by simp);simp only[List.getElem_cons_zero,List.getElem_cons_succ] at f0 f1 f2 f3 f4;have fh:=RX.out.has;have SOK:Hid (te ⟨par,lv,dr,cp,alw⟩ ts.length):=aa ⟨⟨Io,hp2,by show 1<=lv.length;omega,kf,by show dr<=5000;omega,by show par<0->dr=0;intro q;omega,PH,Pm⟩,LI.out.1⟩;clear oL;go_wp2_with (at_builtin;refine wpList_append_own _ rfl _ _ 26 rfl w.heap.size 81 j0 (.agg #[.int .i64 0,.slice none 0 0,.int .i64 0,.int .i64 0,.bool false]) 5 56 Tryz.underlying26 hj kN ka lg rfl (by decide) (.slice a5 ts.length c5) ts.length (ts.flatMap mR) rfl (OX.out.alloc _) ⟨wq.heap.size,0,none⟩ 1 1 (mR (⟨par,lv,dr,cp,alw⟩,aL,cL)) rfl rfl (by have:=wM (wq.setCell ⟨w4.heap.size,2,none⟩ (.int .i64 dr)) (.int .i64 par) (.slice aL lv.length cL) (.int .i64 dr) (.int .i64 cp) (.bool alw) 81;simpa [mR,bQ] using this) (zr _) (by unfold maxLen;omega) (by omega) (by have:=MX.out.size;have:=M4.out.size;simp only[World.size_alloc,bQ] at*;omega) ?_;intro v' wz bI aE eJ;have HOz:=aa bI;have HGz:=aa aE;clear bI aE eJ);go_roundw;case rel=>
       refine⟨ts++ [(⟨par,lv,dr,cp,alw⟩,aL,cL)],m',by go_num,?_,?_,?_,ue OK.out SOK.out,?_,by simp;omega,by simp;omega⟩
       ·exact((M4.out.trans HB.out MX.out).alloc _).grown HGz.out (fun k e=>(OX.out.lt k e).1)
       ·have:=HOz.out;rw[List.length_append,List.flatMap_append];simpa using this
       ·intro t ht;rcases List.mem_append.1 ht with q|q
        ·obtain⟨r1,r2⟩:=HR.out t q;refine⟨bt.grown (((MW4.out.trans (by have:=HM.out.size;have:=HB.out;omega) MX.out).own1 r1 HB.out).gr ((gfl _).alloc _)) HGz.out (fun B hB=>aJ (OX.out.alloc _) hB (by decide)),r2⟩
        rw[List.mem_singleton.1 q];refine⟨(bt.grown (OL.out.gr ((gfl _).alloc _)) HGz.out (fun B hB=>aJ (OX.out.alloc _) hB (by decide))).low (by have:=M4.out.size;omega),hcL⟩
       intro t ht;rcases List.mem_append.1 ht with q|q
       ·exact SM.out t q
       rw[List.mem_singleton.1 q];show lv.length<=16;omega
      case measure=>simp[intOf]
     have gk:(0:Int)<k:=(by omega);have gx:¬x<=5000:=fun q=>hc ⟨gH,q⟩;have gxb:decide (x<=5000)=false:=(by simpa using gx);clear gx;go_wp2_with fail;refine(dG wr b len (MI.out.tp (M4.out.tp TT.out)) _ rfl _ 4 [0,0,100,300] (gv 0 300) rfl rfl (by omega) (by omega) (by simp[gv])).mono ?_;rintro e wq ⟨dr,rfl,⟨kf,hd2⟩,xd⟩;have MQ:=aa (MI.out.trans bw xd);have RQ:=aa (xd.row RI'.out (by omega));have OQ:=aa (xd.owns OI.out bw);have z2:=RQ.out.cell 2 (by simp);have z3:=RQ.out.free 2;have zh:=RQ.out.has;clear xd r0 r1 r2 r3 rh;obtain⟨aL,cL,rfl,hcL,oL⟩:=fX (l7 (o:=2) (x:= .int .i64 dr) OQ.out RQ.out.s (by decide));have OL:=aa oL;have RX:=aa (show Row (wq.setCell ⟨w4.heap.size,2,none⟩ (.int .i64 dr)) w4.heap.size 81 [.int .i64 par,.slice aL lv.length cL,.int .i64 dr,.int .i64 cp,.bool alw] from RQ.out.set 2 (.int .i64 dr));have MX:=aa (MQ.out.setc (o:=2) (v:= .int .i64 dr) (Nat.le_refl _));have OX:=aa ((Mv.owns (MW4.out.trans (by have:=HM.out.size;have:=HB.out;omega) MX.out) HO.out HB.out));have f0:=RX.out.cell 0 (by simp);have f1:=RX.out.cell 1 (by simp);have f2:=RX.out.cell 2 (by simp);have f3:=RX.out.cell 3 (by simp);have f4:=RX.out.cell 4 (by simp);simp only[List.getElem_cons_zero,List.getElem_cons_succ] at f0 f1 f2 f3 f4;have fh:=RX.out.has;have SOK:Hid (te ⟨par,lv,dr,cp,alw⟩ ts.length):=aa ⟨⟨Io,hp2,by show 1<=lv.length;omega,kf,by show dr<=5000;omega,by show par<0->dr=0;intro q;omega,PH,Pm⟩,LI.out.1⟩;clear oL;go_wp2_with (at_builtin;refine wpList_append_own _ rfl _ _ 26 rfl w.heap.size 81 j0 (.agg #[.int .i64 0,.slice none 0 0,.int .i64 0,.int .i64 0,.bool false]) 5 56 Tryz.underlying26 hj kN ka lg rfl (by decide) (.slice a5 ts.length c5) ts.length (ts.flatMap mR) rfl (OX.out.alloc _) ⟨wq.heap.size,0,none⟩ 1 1 (mR (⟨par,lv,dr,cp,alw⟩,aL,cL)) rfl rfl (by have:=wM (wq.setCell ⟨w4.heap.size,2,none⟩ (.int .i64 dr)) (.int .i64 par) (.slice aL lv.length cL) (.int .i64 dr) (.int .i64 cp) (.bool alw) 81;simpa [mR,bQ] using this) (zr _) (by unfold maxLen;omega) (by omega) (by have:=MX.out.size;have:=M4.out.size;simp only[World.size_alloc,bQ] at*;omega) ?_;intro v' wz bI aE eJ;have HOz:=aa bI;have HGz:=aa aE;clear bI aE eJ);go_roundw;case rel=>
      refine⟨ts++ [(⟨par,lv,dr,cp,alw⟩,aL,cL)],m',by go_num,?_,?_,?_,ue OK.out SOK.out,?_,by simp;omega,by simp;omega⟩
      ·exact((M4.out.trans HB.out MX.out).alloc _).grown HGz.out (fun k e=>(OX.out.lt k e).1)
      ·have:=HOz.out;rw[List.length_append,List.flatMap_append];simpa using this
      ·intro t ht;rcases List.mem_append.1 ht with q|q
       ·obtain⟨r1,r2⟩:=HR.out t q;refine⟨bt.grown (((MW4.out.trans (by have:=HM.out.size;have:=HB.out;omega) MX.out).own1 r1 HB.out).gr ((gfl _).alloc _)) HGz.out (fun B hB=>aJ (OX.out.alloc _) hB (by decide)),r2⟩
       rw[List.mem_singleton.1 q];refine⟨(bt.grown (OL.out.gr ((gfl _).alloc _)) HGz.out (fun B hB=>aJ (OX.out.alloc _) hB (by decide))).low (by have:=M4.out.size;omega),hcL⟩
      intro t ht;rcases List.mem_append.1 ht with q|q
      ·exact SM.out t q
      rw[List.mem_singleton.1 q];show lv.length<=16;omega
     case measure=>simp[intOf]
    have gp:par<0:=(by omega);clear hp;rcases Nat.eq_zero_or_pos k with gH|gH
    ·subst gH;obtain⟨aL,cL,rfl,hcL,oL⟩:=fX (OI.out);have OL:=aa oL;have RX:=aa (RI'.out);have MX:=aa (MI.out);have OX:=aa ((Mv.owns (MW4.out.trans (by have:=HM.out.size;have:=HB.out;omega) MX.out) HO.out HB.out));have f0:=RX.out.cell 0 (by simp);have f1:=RX.out.cell 1 (by simp);have f2:=RX.out.cell 2 (by simp);have f3:=RX.out.cell 3 (by simp);have f4:=RX.out.cell 4 (by simp);simp only[List.getElem_cons_zero,List.getElem_cons_succ] at f0 f1 f2 f3 f4;have fh:=RX.out.has;have SOK:Hid (te ⟨par,lv,0,cp,alw⟩ ts.length):=aa ⟨⟨Io,hp2,by show 1<=lv.length;omega,by simp,by simp,fun _=>rfl,PH,Pm⟩,LI.out.1⟩;clear oL;go_wp2_with (at_builtin;refine wpList_append_own _ rfl _ _ 26 rfl w.heap.size 81 j0 (.agg #[.int .i64 0,.slice none 0 0,.int .i64 0,.int .i64 0,.bool false]) 5 56 Tryz.underlying26 hj kN ka lg rfl (by decide) (.slice a5 ts.length c5) ts.length (ts.flatMap mR) rfl (OX.out.alloc _) ⟨wr.heap.size,0,none⟩ 1 1 (mR (⟨par,lv,0,cp,alw⟩,aL,cL)) rfl rfl (by have:=wM wr (.int .i64 par) (.slice aL lv.length cL) (.int .i64 0) (.int .i64 cp) (.bool alw) 81;simpa [mR,bQ] using this) (zr _) (by unfold maxLen;omega) (by omega) (by have:=MX.out.size;have:=M4.out.size;simp only[World.size_alloc,bQ] at*;omega) ?_;intro v' wz bI aE eJ;have HOz:=aa bI;have HGz:=aa aE;clear bI aE eJ);go_roundw;case rel=>
      refine⟨ts++ [(⟨par,lv,0,cp,alw⟩,aL,cL)],m',by go_num,?_,?_,?_,ue OK.out SOK.out,?_,by simp;omega,by simp;omega⟩
      ·exact((M4.out.trans HB.out MX.out).alloc _).grown HGz.out (fun k e=>(OX.out.lt k e).1)
      ·have:=HOz.out;rw[List.length_append,List.flatMap_append];simpa using this
      ·intro t ht;rcases List.mem_append.1 ht with q|q
       ·obtain⟨r1,r2⟩:=HR.out t q;refine⟨bt.grown (((MW4.out.trans (by have:=HM.out.size;have:=HB.out;omega) MX.out).own1 r1 HB.out).gr ((gfl _).alloc _)) HGz.out (fun B hB=>aJ (OX.out.alloc _) hB (by decide)),r2⟩
       rw[List.mem_singleton.1 q];refine⟨(bt.grown (OL.out.gr ((gfl _).alloc _)) HGz.out (fun B hB=>aJ (OX.out.alloc _) hB (by decide))).low (by have:=M4.out.size;omega),hcL⟩
      intro t ht;rcases List.mem_append.1 ht with q|q
      ·exact SM.out t q
      rw[List.mem_singleton.1 q];show lv.length<=16;omega
     case measure=>simp[intOf]
    have gk:(0:Int)<k:=(by omega);have gx:¬x<=5000:=fun q=>hc ⟨gH,q⟩;have gxb:decide (x<=5000)=false:=(by simpa using gx);clear gx;obtain⟨aL,cL,rfl,hcL,oL⟩:=fX (OI.out);have OL:=aa oL;have RX:=aa (RI'.out);have MX:=aa (MI.out);have OX:=aa ((Mv.owns (MW4.out.trans (by have:=HM.out.size;have:=HB.out;omega) MX.out) HO.out HB.out));have f0:=RX.out.cell 0 (by simp);have f1:=RX.out.cell 1 (by simp);have f2:=RX.out.cell 2 (by simp);have f3:=RX.out.cell 3 (by simp);have f4:=RX.out.cell 4 (by simp);simp only[List.getElem_cons_zero,List.getElem_cons_succ] at f0 f1 f2 f3 f4;have fh:=RX.out.has;have SOK:Hid (te ⟨par,lv,0,cp,alw⟩ ts.length):=aa ⟨⟨Io,hp2,by show 1<=lv.length;omega,by simp,by simp,fun _=>rfl,PH,Pm⟩,LI.out.1⟩;clear oL;go_wp2_with (at_builtin;refine wpList_append_own _ rfl _ _ 26 rfl w.heap.size 81 j0 (.agg #[.int .i64 0,.slice none 0 0,.int .i64 0,.int .i64 0,.bool false]) 5 56 Tryz.underlying26 hj kN ka lg rfl (by decide) (.slice a5 ts.length c5) ts.length (ts.flatMap mR) rfl (OX.out.alloc _) ⟨wr.heap.size,0,none⟩ 1 1 (mR (⟨par,lv,0,cp,alw⟩,aL,cL)) rfl rfl (by have:=wM wr (.int .i64 par) (.slice aL lv.length cL) (.int .i64 0) (.int .i64 cp) (.bool alw) 81;simpa [mR,bQ] using this) (zr _) (by unfold maxLen;omega) (by omega) (by have:=MX.out.size;have:=M4.out.size;simp only[World.size_alloc,bQ] at*;omega) ?_;intro v' wz bI aE eJ;have HOz:=aa bI;have HGz:=aa aE;clear bI aE eJ);go_roundw;case rel=>
     refine⟨ts++ [(⟨par,lv,0,cp,alw⟩,aL,cL)],m',by go_num,?_,?_,?_,ue OK.out SOK.out,?_,by simp;omega,by simp;omega⟩
     ·exact((M4.out.trans HB.out MX.out).alloc _).grown HGz.out (fun k e=>(OX.out.lt k e).1)
     ·have:=HOz.out;rw[List.length_append,List.flatMap_append];simpa using this
     ·intro t ht;rcases List.mem_append.1 ht with q|q
      ·obtain⟨r1,r2⟩:=HR.out t q;refine⟨bt.grown (((MW4.out.trans (by have:=HM.out.size;have:=HB.out;omega) MX.out).own1 r1 HB.out).gr ((gfl _).alloc _)) HGz.out (fun B hB=>aJ (OX.out.alloc _) hB (by decide)),r2⟩
      rw[List.mem_singleton.1 q];refine⟨(bt.grown (OL.out.gr ((gfl _).alloc _)) HGz.out (fun B hB=>aJ (OX.out.alloc _) hB (by decide))).low (by have:=M4.out.size;omega),hcL⟩
     intro t ht;rcases List.mem_append.1 ht with q|q
     ·exact SM.out t q
     rw[List.mem_singleton.1 q];show lv.length<=16;omega
    case measure=>simp[intOf]
  have jx:m=0:=by omega
  subst jx;go_wp2_with fail;go_ret;have AU:0<ts.length:=by omega
  refine⟨sups ts,a5,c5,by simp[sups],Oq OK.out SM.out (by omega),by simp[sups];omega,by simp[sups];omega,?_,fun p=>?_,HM.out⟩
  ·obtain⟨a',c',e',h1,h2⟩:=Od HO.out HR.out OK.out SM.out AU (by omega);cases e';simpa [sups] using h1
  obtain⟨a',c',e',h1,h2⟩:=Od (ownsRow_setCell_below HO.out (a:=⟨b,1,none⟩) HB.out (.int .i64 p)) (fun t ht=>⟨(HR.out t ht).1.oth HB.out,(HR.out t ht).2⟩) OK.out SM.out AU (by omega);cases e';exact h2
noncomputable def runW(r:Rls)(ps:List Wri):Rls:=ps.foldl Sg r
abbrev RT:=Rls×(Option Addr×Nat)×(Option Addr×Nat)
def RlRows(w:World)(ts:List RT):Prop:=∀t∈ts,bt 0 w 4 (bg t.1.on) t.2.1.1/\bt 0 w 3 (an t.1.level) t.2.2.1/\t.1.on.length<=t.2.1.2/\t.1.level.length<=t.2.2.2
end Go.Proofs.YtlmhkjdkcoiioaaGreatDoor
