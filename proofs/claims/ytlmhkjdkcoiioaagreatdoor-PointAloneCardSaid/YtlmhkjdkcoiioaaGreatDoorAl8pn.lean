/- Lemmas and contracts for the proof of PointAlone (several texts in one, printed by wip/tools/pack.py): Kn Ko. -/
import Derived.Test.YtlmhkjdkcoiioaaGreatDoorAl8pi
import Derived.Deep.LoopGhost
set_option maxRecDepth 100000
set_option maxHeartbeats 16000000
set_option linter.unusedVariables false
set_option linter.unusedSimpArgs false
namespace Go.Proofs.YtlmhkjdkcoiioaaGreatDoor
open Go.RowKit
open Classical
def SU{σ:Type}(I:Df σ)(step:σ->Nbr->σ)(l:List Clk)(cal:List Int->Bool)(s:List Int)(c1 c2:Nat)(w0:World):Prop:=
 ∀(t:Nbr) (st:σ) (w:World) (L:List Nat),t∈nbS l cal s->Gr w0 w->I st w L->(∀b∈L,Has w b)->
  Calls Tryz.prog 162 #[.agg #[.int .i64 1,.int .i64 t.1,.int .i64 t.2.1],.int .i64 (num l t.2.2),.pointer (some ⟨c1,0,none⟩),.pointer (some ⟨c2,0,none⟩)] w fun e w'=>e= .returned (.tuple #[])/\I (step st t) w' L/\Gr w0 w'/\(∀b∈L,w'.heap[b]?=w.heap[b]?)/\w.heap.size<=w'.heap.size
theorem Sr{σ:Type}(I:Df σ)(step:σ->Nbr->σ)(l:List Clk)(ms:List Lmt)(s:List Int)(al am:Option Addr)(cl cm BK c1 c2:Nat)(L0:List Nat)(w0 w:World)(st:σ)
  (bH:Env w0 l ms al am) (tY:Gr w0 w) (aZ:aI l s) (hk:Kn w BK l (aG l ms)) (xK:w0.heap.size<=BK) (hL:∀b∈L0,Has w b) (hBK:BK∈L0) (hI:tH I)
  (dU:∀w1 L,Gr w w1->(∀b∈L,b∈L0∨w.heap.size<=b)->I st w1 L) (hv:SU I step l (aG l ms) s c1 c2 w0):
  Calls Tryz.prog 118 #[spV l ms al am cl cm BK,.int .i64 (num l s),.func (.func 162) #[] #[.pointer (some ⟨c1,0,none⟩),.pointer (some ⟨c2,0,none⟩)]] w fun e w'=>e= .returned (.tuple #[])/\I ((nbS l (aG l ms) s).foldl step st) w' L0/\Gr w0 w'/\Kn w' BK l (aG l ms)/\(∀b∈L0,b≠BK->w'.heap[b]?=w.heap[b]?)/\w.heap.size<=w'.heap.size:=by
 obtain⟨nb,_,_,_⟩:=bm bH.chk;have hl:=cg nb;have eX:s.length=l.length:=aZ.1;have NB:=aa nb;have HE:=aa bH;have HG0:=aa tY;have HT:=aa aZ;have HL:=aa hL;have HB:=aa hBK;have HI:=aa hI;have HS:=aa dU;have HV:=aa hv;have CF:=aa xK;have HK:=aa hk;obtain⟨XB,hXB⟩:∃XB:Nat,Hid (w.heap.size=XB):=⟨_,aa rfl⟩;obtain⟨n,hn⟩:∃n,num l s=n:=⟨_,rfl⟩;obtain⟨W1,hW1⟩:∃W1:World,Hid (W1=w.alloc (.cells #[.slice al l.length cl,.slice am ms.length cm,.map (some BK)] 158)):=⟨_,aa rfl⟩;have G1:Hid (Gr w W1):=aa (by rw[hW1.out];exact(gfl _).alloc _);have X1:Hid (Row W1 XB 158 [.slice al l.length cl,.slice am ms.length cm,.map (some BK)]):=aa (by rw[hW1.out,<-hXB.out];exact Row.new w _ _);have z1:Hid (W1.heap.size=w.heap.size+1):=aa (by rw[hW1.out];simp);have ST:Hid (Calls Tryz.prog 163 #[.agg #[.slice al l.length cl,.slice am ms.length cm,.map (some BK)],.int .i64 n] W1 (fun e w'=>∃SB,e= .returned (.slice (some ⟨SB,0,none⟩) l.length l.length)/\Row w' SB 3 (an s)/\W1.heap.size<=SB/\Gr W1 w')):=aa (by rw[<-hn];exact AY l s al am cl ms.length cm (.map (some BK)) W1 (bj bH.clks (tY.trans G1.out)) bH.chk aZ)
 have hGW:=aa (show Gr w W1 from G1.out);rw[hn];clear nb bH tY aZ hL hBK hI dU hv xK hk hn;go_enter Tryz.func118,Tryz.ntmps118;go_wp2_with fail;rw[<-hW1.out];refine ST.out.mono ?_;rintro e W2 ⟨SB,rfl,hr,hb,hg⟩;rw[hXB.out];have sb:Hid (w.heap.size<=SB):=aa (by have:=z1.out;omega);have xs:Hid (XB≠SB):=aa (by have:=z1.out;have:=hXB.out;omega);have xb:Hid (w.heap.size<=XB):=aa (by have:=hXB.out;omega);have s0:Hid (w0.heap.size<=SB):=aa (Nat.le_trans HG0.out.size sb.out);have hE:EI I w0 w l ms al am cl cm BK XB SB L0 st W2 s:=
  {row:=hr,box:=X1.out.gr hg,kn:=HK.out.gr (G1.out.trans hg),
    st:=HS.out W2 _ (G1.out.trans hg) (fun b hb=>by
     rcases List.mem_cons.1 hb with e|hb
     ·subst e;exact .inr xb.out
     rcases List.mem_cons.1 hb with e|hb
     ·subst e;exact .inr sb.out
     exact .inl hb),
    gr:=HG0.out.trans (G1.out.trans hg),
    keep:=fun b hb _=>(G1.out.trans hg).below.block b (HL.out b hb),
    size:=(G1.out.trans hg).size}
 have E2:=aa hE;have x0:=hE.box.cell 0 (by simp);simp only[List.getElem_cons_zero] at x0;have xh:=hE.box.has;clear hE hr hb hg ST X1 G1 hGW HK HS;go_wp2_with fail;clear x0 xh;go_loopw [18] (fun i wr=>∃k:Nat,k<=l.length/\i= .int .i64 k/\EI I w0 w l ms al am cl cm BK XB SB L0 ((l8 l (aG l ms) s k).foldl step st) wr s) (fun i _=>l.length-(intOf i).toNat);case atStart=>exact⟨0,Nat.zero_le _,rfl,E2.out⟩
 case round=>
  clear E2;obtain⟨i,hi,rfl,hE⟩:=hrel;obtain⟨wo,rfl⟩:∃wo:World,wo=wr:=⟨_,rfl⟩;have EI1:=aa hE;by_cases aA:i<l.length
  ·have kJ:i<s.length:=by omega
   obtain⟨b,o,rfl,⟨d0,_⟩,⟨ap,cp,d1,_⟩,⟨ac,cc,d2,d2l,d2f,_⟩,⟨d3,_⟩,⟨d4,_⟩⟩:=bj HE.out.clks hE.gr i aA;have e0:=hE.row.iat i kJ;have rh:=hE.row.has;have i2:(i:Int)<l.length:=by omega
   obtain⟨fp,fc⟩:=fR NB.out aA;unfold Fit at d2f;have KO:Hid (kOf l i=(l[i].choices.length:Int)):=aa (lu aA);have SO:Hid (sOf s i=s[i]):=aa (lZ kJ);clear hE;go_wp2_with fail;obtain⟨W3,hW3⟩:∃W3:World,Hid (W3=wo.alloc (.cells #[.int .i64 l[i].kind,.slice ap l[i].parents.length cp,.slice ac l[i].choices.length cc,.int .i64 l[i].low,.int .i64 l[i].high] 130)):=⟨_,aa rfl⟩;rw[<-hW3.out];have E3:=aa (EI1.out.grow HI.out HL.out (w':=W3) (by rw[hW3.out];exact(gfl _).alloc _));clear hW3 EI1 d0 d1 d2 d3 d4 e0 rh;go_loopw [30] (fun j wr=>∃k:Nat,k<=l[i].choices.length/\j= .int .i64 k/\∃x,EI I w0 w l ms (some ⟨b,o,none⟩) am cl cm BK XB SB L0 ((l8 l (aG l ms) s i++fa (aG l ms) s i k).foldl step st) wr (s.set i x)) (fun j _=>l[i].choices.length-(intOf j).toNat);case atStart=>exact⟨0,Nat.zero_le _,rfl,s[i],by have:=E3.out;simpa [fa] using this⟩
   case round=>
    clear E3;obtain⟨k,hk,rfl,x,hE⟩:=hrel;have e0:=hE.row.cell i (by rw[dp,List.length_set];exact kJ);have f0:=hE.row.free i;have rh:=hE.row.has;have E4:=aa hE;by_cases lX:k<l[i].choices.length
    ·have k2:(k:Int)<l[i].choices.length:=(by omega);have rM:aI l (s.set i (k:Int)):=HT.out.set aA (by omega) (by rw[KO.out];exact k2);have E5':=E4.out.set HI.out HL.out sb.out xs.out s0.out HB.out i (k:Int);rw[List.set_set] at E5';have E5:=aa E5';have T2:=aa rM;have x0:=E5'.box.cell 0 (by simp);have x1:=E5'.box.cell 1 (by simp);have x2:=E5'.box.cell 2 (by simp);simp only[List.getElem_cons_zero,List.getElem_cons_succ] at x0 x1 x2;have xh:=E5'.box.has;have NM:=uj l (s.set i (k:Int)) (some ⟨b,o,none⟩) (some ⟨SB,0,none⟩) am cl l.length ms.length cm (.map (some BK)) _ (bj HE.out.clks E5'.gr) (E5'.row.s.slI (gm HE.out.chk rM)) HE.out.chk rM;rw[rM.1] at NM;obtain⟨m,hm⟩:∃m,num l (s.set i (k:Int))=m:=⟨_,rfl⟩;rw[hm] at NM;have HM:=aa hm;have NM':=aa NM;clear hE E5' rM NM hm E4;go_wp2_with fail;obtain⟨W5,hW5⟩:∃W5:World,Hid (W5=wr.setCell ⟨SB,i,none⟩ (.int .i64 (k:Int))):=⟨_,aa rfl⟩;rw[<-hW5.out] at NM' E5 ⊢;refine NM'.out.mono ?_;rintro e W6 ⟨rfl,jU⟩;have E6':=E5.out.grow HI.out HL.out jU;have E6:=aa E6';have y0:=E6'.box.cell 0 (by simp);have y1:=E6'.box.cell 1 (by simp);have y2:=E6'.box.cell 2 (by simp);simp only[List.getElem_cons_zero,List.getElem_cons_succ] at y0 y1 y2;have yh:=E6'.box.has;clear hW5 E5 NM' E6' jU x0 x1 x2 xh e0 f0 rh;have ROW:=aa (qj (aG l ms) s i k);by_cases lW:(k:Int)=s[i]
     ·have hb:((k:Int) !=s[i])=false:=(by simp[lW]);have R0:Hid (fa (aG l ms) s i (k+1)=fa (aG l ms) s i k):=aa (by rw[ROW.out];simp[jZ,SO.out,lW]);clear lW;go_wp2_with fail;go_roundw;case rel=>exact⟨k+1,by omega,by go_num,_,by rw[R0.out];exact E6.out⟩
      case measure=>simp[intOf];omega
     have hb:((k:Int) !=s[i])=true:=(by simp[lW]);have SC:=Ib l ms (s.set i (k:Int)) (some ⟨b,o,none⟩) am cl cm BK W6 (HE.out.gr E6.out.gr) T2.out E6.out.kn;rw[HM.out] at SC;have SC':=aa SC;clear SC;cases hc:aG l ms (s.set i (k:Int)) with
     |false=>
      have R0:Hid (fa (aG l ms) s i (k+1)=fa (aG l ms) s i k):=aa (by rw[ROW.out];simp[jZ,hc]);rw[hc] at SC';clear lW hc;go_wp2_with fail;refine SC'.out.mono ?_;rintro e W7 ⟨rfl,Bh,jT⟩;have E7:=aa (E6.out.known HI.out HL.out sb.out xb.out CF.out HB.out jT Bh);clear Bh jT E6;go_wp2_with fail;go_roundw;case rel=>exact⟨k+1,by omega,by go_num,_,by rw[R0.out];exact E7.out⟩
      case measure=>simp[intOf];omega
     |true=>
      have R0:Hid (fa (aG l ms) s i (k+1)=fa (aG l ms) s i k++ [((i:Int),(k:Int),s.set i (k:Int))]):=aa (by rw[ROW.out];simp[jZ,hc,SO.out,lW]);have MEM:Hid (((i:Int),(k:Int),s.set i (k:Int))∈nbS l (aG l ms) s):=aa (qo.2 ⟨i,k,aA,by rw[KO.out];exact k2,by rw[SO.out];exact lW,hc,rfl⟩);rw[hc] at SC';clear lW hc;go_wp2_with fail;refine SC'.out.mono ?_;rintro e W7 ⟨rfl,Bh,jT⟩;have E7:=aa (E6.out.known HI.out HL.out sb.out xb.out CF.out HB.out jT Bh);have CV:=HV.out _ _ W7 _ MEM.out E7.out.gr E7.out.st (E7.out.hasL HL.out);simp only[HM.out] at CV;have CV':=aa CV;clear Bh jT E6 CV;go_wp2_with fail;refine CV'.out.mono ?_;rintro e W8 ⟨rfl,h1,h2,h3,h4⟩;have E8:=aa (E7.out.call HI.out HB.out h1 h2 h3 h4);clear h1 h2 h3 h4 E7;go_wp2_with fail;go_roundw;case rel=>exact⟨k+1,by omega,by go_num,_,by rw[R0.out,<-List.append_assoc,List.foldl_append];exact E8.out⟩
      case measure=>simp[intOf];omega
    obtain rfl:k=l[i].choices.length:=by omega
    have E9':=E4.out.set HI.out HL.out sb.out xs.out s0.out HB.out i s[i];rw[List.set_set,List.set_getElem_self] at E9';have E9:=aa E9';clear E9' E4 hE;go_wp2_with fail;go_roundw;case rel=>refine⟨i+1,by omega,by go_num,?_⟩;rw[oK,KO.out,Int.toNat_natCast];exact E9.out
    case measure=>simp[intOf];omega
  obtain rfl:i=l.length:=by omega
  clear hE;go_wp2_with fail;go_end0;exact⟨rfl,HI.out.sub _ _ _ _ EI1.out.st (fun b hb=>by simp[hb]),EI1.out.gr,EI1.out.kn,EI1.out.keep,EI1.out.size⟩
def RP{σ:Type}(I:Df σ)(step:σ->Nbr->σ)(l:List Clk)(cal:List Int->Bool)(s:List Int)(c1 c2 c3 c4:Nat)(w0:World):Prop:=
 ∀(t:Nbr) (st:σ) (w:World) (L:List Nat),t∈nbS l cal s->Gr w0 w->I st w L->(∀b∈L,Has w b)->
  Calls Tryz.prog 119 #[.agg #[.int .i64 1,.int .i64 t.1,.int .i64 t.2.1],.int .i64 (num l t.2.2),.pointer (some ⟨c1,0,none⟩),.pointer (some ⟨c2,0,none⟩),.pointer (some ⟨c3,0,none⟩),.pointer (some ⟨c4,0,none⟩)] w fun e w'=>e= .returned (.tuple #[])/\I (step st t) w' L/\Gr w0 w'/\(∀b∈L,w'.heap[b]?=w.heap[b]?)/\w.heap.size<=w'.heap.size
theorem Se{σ:Type}(I:Df σ)(step:σ->Nbr->σ)(l:List Clk)(ms:List Lmt)(s:List Int)(al am:Option Addr)(cl cm BK c1 c2 c3 c4:Nat)(L0:List Nat)(w0 w:World)(st:σ)
  (bH:Env w0 l ms al am) (tY:Gr w0 w) (aZ:aI l s) (hk:Kn w BK l (aG l ms)) (xK:w0.heap.size<=BK) (hL:∀b∈L0,Has w b) (hBK:BK∈L0) (hI:tH I)
  (dU:∀w1 L,Gr w w1->(∀b∈L,b∈L0∨w.heap.size<=b)->I st w1 L) (hv:RP I step l (aG l ms) s c1 c2 c3 c4 w0):
  Calls Tryz.prog 118 #[spV l ms al am cl cm BK,.int .i64 (num l s),.func (.func 119) #[] #[.pointer (some ⟨c1,0,none⟩),.pointer (some ⟨c2,0,none⟩),.pointer (some ⟨c3,0,none⟩),.pointer (some ⟨c4,0,none⟩)]] w fun e w'=>e= .returned (.tuple #[])/\I ((nbS l (aG l ms) s).foldl step st) w' L0/\Gr w0 w'/\Kn w' BK l (aG l ms)/\(∀b∈L0,b≠BK->w'.heap[b]?=w.heap[b]?)/\w.heap.size<=w'.heap.size:=by
 obtain⟨nb,_,_,_⟩:=bm bH.chk;have hl:=cg nb;have eX:s.length=l.length:=aZ.1;have NB:=aa nb;have HE:=aa bH;have HG0:=aa tY;have HT:=aa aZ;have HL:=aa hL;have HB:=aa hBK;have HI:=aa hI;have HS:=aa dU;have HV:=aa hv;have CF:=aa xK;have HK:=aa hk;obtain⟨XB,hXB⟩:∃XB:Nat,Hid (w.heap.size=XB):=⟨_,aa rfl⟩;obtain⟨n,hn⟩:∃n,num l s=n:=⟨_,rfl⟩;obtain⟨W1,hW1⟩:∃W1:World,Hid (W1=w.alloc (.cells #[.slice al l.length cl,.slice am ms.length cm,.map (some BK)] 158)):=⟨_,aa rfl⟩;have G1:Hid (Gr w W1):=aa (by rw[hW1.out];exact(gfl _).alloc _);have X1:Hid (Row W1 XB 158 [.slice al l.length cl,.slice am ms.length cm,.map (some BK)]):=aa (by rw[hW1.out,<-hXB.out];exact Row.new w _ _);have z1:Hid (W1.heap.size=w.heap.size+1):=aa (by rw[hW1.out];simp);have ST:Hid (Calls Tryz.prog 163 #[.agg #[.slice al l.length cl,.slice am ms.length cm,.map (some BK)],.int .i64 n] W1 (fun e w'=>∃SB,e= .returned (.slice (some ⟨SB,0,none⟩) l.length l.length)/\Row w' SB 3 (an s)/\W1.heap.size<=SB/\Gr W1 w')):=aa (by rw[<-hn];exact AY l s al am cl ms.length cm (.map (some BK)) W1 (bj bH.clks (tY.trans G1.out)) bH.chk aZ)
 have hGW:=aa (show Gr w W1 from G1.out);rw[hn];clear nb bH tY aZ hL hBK hI dU hv xK hk hn;go_enter Tryz.func118,Tryz.ntmps118;go_wp2_with fail;rw[<-hW1.out];refine ST.out.mono ?_;rintro e W2 ⟨SB,rfl,hr,hb,hg⟩;rw[hXB.out];have sb:Hid (w.heap.size<=SB):=aa (by have:=z1.out;omega);have xs:Hid (XB≠SB):=aa (by have:=z1.out;have:=hXB.out;omega);have xb:Hid (w.heap.size<=XB):=aa (by have:=hXB.out;omega);have s0:Hid (w0.heap.size<=SB):=aa (Nat.le_trans HG0.out.size sb.out);have hE:EI I w0 w l ms al am cl cm BK XB SB L0 st W2 s:=
  {row:=hr,box:=X1.out.gr hg,kn:=HK.out.gr (G1.out.trans hg),
    st:=HS.out W2 _ (G1.out.trans hg) (fun b hb=>by
     rcases List.mem_cons.1 hb with e|hb
     ·subst e;exact .inr xb.out
     rcases List.mem_cons.1 hb with e|hb
     ·subst e;exact .inr sb.out
     exact .inl hb),
    gr:=HG0.out.trans (G1.out.trans hg),
    keep:=fun b hb _=>(G1.out.trans hg).below.block b (HL.out b hb),
    size:=(G1.out.trans hg).size}
 have E2:=aa hE;have x0:=hE.box.cell 0 (by simp);simp only[List.getElem_cons_zero] at x0;have xh:=hE.box.has;clear hE hr hb hg ST X1 G1 hGW HK HS;go_wp2_with fail;clear x0 xh;go_loopw [18] (fun i wr=>∃k:Nat,k<=l.length/\i= .int .i64 k/\EI I w0 w l ms al am cl cm BK XB SB L0 ((l8 l (aG l ms) s k).foldl step st) wr s) (fun i _=>l.length-(intOf i).toNat);case atStart=>exact⟨0,Nat.zero_le _,rfl,E2.out⟩
 case round=>
  clear E2;obtain⟨i,hi,rfl,hE⟩:=hrel;obtain⟨wo,rfl⟩:∃wo:World,wo=wr:=⟨_,rfl⟩;have EI1:=aa hE;by_cases aA:i<l.length
  ·have kJ:i<s.length:=by omega
   obtain⟨b,o,rfl,⟨d0,_⟩,⟨ap,cp,d1,_⟩,⟨ac,cc,d2,d2l,d2f,_⟩,⟨d3,_⟩,⟨d4,_⟩⟩:=bj HE.out.clks hE.gr i aA;have e0:=hE.row.iat i kJ;have rh:=hE.row.has;have i2:(i:Int)<l.length:=by omega
   obtain⟨fp,fc⟩:=fR NB.out aA;unfold Fit at d2f;have KO:Hid (kOf l i=(l[i].choices.length:Int)):=aa (lu aA);have SO:Hid (sOf s i=s[i]):=aa (lZ kJ);clear hE;go_wp2_with fail;obtain⟨W3,hW3⟩:∃W3:World,Hid (W3=wo.alloc (.cells #[.int .i64 l[i].kind,.slice ap l[i].parents.length cp,.slice ac l[i].choices.length cc,.int .i64 l[i].low,.int .i64 l[i].high] 130)):=⟨_,aa rfl⟩;rw[<-hW3.out];have E3:=aa (EI1.out.grow HI.out HL.out (w':=W3) (by rw[hW3.out];exact(gfl _).alloc _));clear hW3 EI1 d0 d1 d2 d3 d4 e0 rh;go_loopw [30] (fun j wr=>∃k:Nat,k<=l[i].choices.length/\j= .int .i64 k/\∃x,EI I w0 w l ms (some ⟨b,o,none⟩) am cl cm BK XB SB L0 ((l8 l (aG l ms) s i++fa (aG l ms) s i k).foldl step st) wr (s.set i x)) (fun j _=>l[i].choices.length-(intOf j).toNat);case atStart=>exact⟨0,Nat.zero_le _,rfl,s[i],by have:=E3.out;simpa [fa] using this⟩
   case round=>
    clear E3;obtain⟨k,hk,rfl,x,hE⟩:=hrel;have e0:=hE.row.cell i (by rw[dp,List.length_set];exact kJ);have f0:=hE.row.free i;have rh:=hE.row.has;have E4:=aa hE;by_cases lX:k<l[i].choices.length
    ·have k2:(k:Int)<l[i].choices.length:=(by omega);have rM:aI l (s.set i (k:Int)):=HT.out.set aA (by omega) (by rw[KO.out];exact k2);have E5':=E4.out.set HI.out HL.out sb.out xs.out s0.out HB.out i (k:Int);rw[List.set_set] at E5';have E5:=aa E5';have T2:=aa rM;have x0:=E5'.box.cell 0 (by simp);have x1:=E5'.box.cell 1 (by simp);have x2:=E5'.box.cell 2 (by simp);simp only[List.getElem_cons_zero,List.getElem_cons_succ] at x0 x1 x2;have xh:=E5'.box.has;have NM:=uj l (s.set i (k:Int)) (some ⟨b,o,none⟩) (some ⟨SB,0,none⟩) am cl l.length ms.length cm (.map (some BK)) _ (bj HE.out.clks E5'.gr) (E5'.row.s.slI (gm HE.out.chk rM)) HE.out.chk rM;rw[rM.1] at NM;obtain⟨m,hm⟩:∃m,num l (s.set i (k:Int))=m:=⟨_,rfl⟩;rw[hm] at NM;have HM:=aa hm;have NM':=aa NM;clear hE E5' rM NM hm E4;go_wp2_with fail;obtain⟨W5,hW5⟩:∃W5:World,Hid (W5=wr.setCell ⟨SB,i,none⟩ (.int .i64 (k:Int))):=⟨_,aa rfl⟩;rw[<-hW5.out] at NM' E5 ⊢;refine NM'.out.mono ?_;rintro e W6 ⟨rfl,jU⟩;have E6':=E5.out.grow HI.out HL.out jU;have E6:=aa E6';have y0:=E6'.box.cell 0 (by simp);have y1:=E6'.box.cell 1 (by simp);have y2:=E6'.box.cell 2 (by simp);simp only[List.getElem_cons_zero,List.getElem_cons_succ] at y0 y1 y2;have yh:=E6'.box.has;clear hW5 E5 NM' E6' jU x0 x1 x2 xh e0 f0 rh;have ROW:=aa (qj (aG l ms) s i k);by_cases lW:(k:Int)=s[i]
     ·have hb:((k:Int) !=s[i])=false:=(by simp[lW]);have R0:Hid (fa (aG l ms) s i (k+1)=fa (aG l ms) s i k):=aa (by rw[ROW.out];simp[jZ,SO.out,lW]);clear lW;go_wp2_with fail;go_roundw;case rel=>exact⟨k+1,by omega,by go_num,_,by rw[R0.out];exact E6.out⟩
      case measure=>simp[intOf];omega
     have hb:((k:Int) !=s[i])=true:=(by simp[lW]);have SC:=Ib l ms (s.set i (k:Int)) (some ⟨b,o,none⟩) am cl cm BK W6 (HE.out.gr E6.out.gr) T2.out E6.out.kn;rw[HM.out] at SC;have SC':=aa SC;clear SC;cases hc:aG l ms (s.set i (k:Int)) with
     |false=>
      have R0:Hid (fa (aG l ms) s i (k+1)=fa (aG l ms) s i k):=aa (by rw[ROW.out];simp[jZ,hc]);rw[hc] at SC';clear lW hc;go_wp2_with fail;refine SC'.out.mono ?_;rintro e W7 ⟨rfl,Bh,jT⟩;have E7:=aa (E6.out.known HI.out HL.out sb.out xb.out CF.out HB.out jT Bh);clear Bh jT E6;go_wp2_with fail;go_roundw;case rel=>exact⟨k+1,by omega,by go_num,_,by rw[R0.out];exact E7.out⟩
      case measure=>simp[intOf];omega
     |true=>
      have R0:Hid (fa (aG l ms) s i (k+1)=fa (aG l ms) s i k++ [((i:Int),(k:Int),s.set i (k:Int))]):=aa (by rw[ROW.out];simp[jZ,hc,SO.out,lW]);have MEM:Hid (((i:Int),(k:Int),s.set i (k:Int))∈nbS l (aG l ms) s):=aa (qo.2 ⟨i,k,aA,by rw[KO.out];exact k2,by rw[SO.out];exact lW,hc,rfl⟩);rw[hc] at SC';clear lW hc;go_wp2_with fail;refine SC'.out.mono ?_;rintro e W7 ⟨rfl,Bh,jT⟩;have E7:=aa (E6.out.known HI.out HL.out sb.out xb.out CF.out HB.out jT Bh);have CV:=HV.out _ _ W7 _ MEM.out E7.out.gr E7.out.st (E7.out.hasL HL.out);simp only[HM.out] at CV;have CV':=aa CV;clear Bh jT E6 CV;go_wp2_with fail;refine CV'.out.mono ?_;rintro e W8 ⟨rfl,h1,h2,h3,h4⟩;have E8:=aa (E7.out.call HI.out HB.out h1 h2 h3 h4);clear h1 h2 h3 h4 E7;go_wp2_with fail;go_roundw;case rel=>exact⟨k+1,by omega,by go_num,_,by rw[R0.out,<-List.append_assoc,List.foldl_append];exact E8.out⟩
      case measure=>simp[intOf];omega
    obtain rfl:k=l[i].choices.length:=by omega
    have E9':=E4.out.set HI.out HL.out sb.out xs.out s0.out HB.out i s[i];rw[List.set_set,List.set_getElem_self] at E9';have E9:=aa E9';clear E9' E4 hE;go_wp2_with fail;go_roundw;case rel=>refine⟨i+1,by omega,by go_num,?_⟩;rw[oK,KO.out,Int.toNat_natCast];exact E9.out
    case measure=>simp[intOf];omega
  obtain rfl:i=l.length:=by omega
  clear hE;go_wp2_with fail;go_end0;exact⟨rfl,HI.out.sub _ _ _ _ EI1.out.st (fun b hb=>by simp[hb]),EI1.out.gr,EI1.out.kn,EI1.out.keep,EI1.out.size⟩
theorem lC.ne_row{β:Type}{w:World}{E:TypeId}{f:β->Lit}{B:Nat}{V:List (Int×β)}(h:lC w E f B V){C T:Nat}{vs:List Value}(r:Row w C T vs):B≠C:=by obtain⟨D,⟨es,clock,h0,_⟩,_⟩:=h;rintro rfl;unfold Row at r;rw[r] at h0;cases h0
structure QSt(l:List Clk)(base BO BM BQ p:Nat)(h:List Int)(d:Int)(V:List (List Int×Int))(w:World)(L:List Nat):Prop where
 out:Row w BO 161 [.map (some BM)]
 map:xx w BM (V.map fun q=>(num l q.1,q.2))
 queue:∃v,Row w BQ 22 [v]/\QAt w base 3 v ((V.drop p).map fun q=> .int .i64 (num l q.1))/\∀g,v.ownBlock=some g->g∉L
 off:BO∉L/\BM∉L/\BQ∉L
 nodup:(V.map (·.1)).Nodup
 ok:∀q∈V,aI l q.1/\0<=q.2/\q.2<V.length
 head:V[p]?=some (h,d)
 low:base<=BO/\base<=BM/\base<=BQ
theorem QAt.sl{w:World}{base T:Nat}{v:Value}{xs:List Value}(h:QAt w base T v xs):∃g off cap,v= .slice (some ⟨g,off,none⟩) xs.length cap:=by obtain⟨g,off,cap,arr,rfl,_⟩:=h;exact⟨g,off,cap,rfl⟩
theorem IZ(l:List Clk)(base BO BM BQ p:Nat)(h:List Int)(d:Int):tH (QSt l base BO BM BQ p h d) where
 keep:=by intro V w w' L row q hg fe;obtain⟨v,r1,r2,r3⟩:=q.queue;have bS:∀b,b∉L->some b≠row:=fun b hb e=>hb (fe b e.symm);obtain⟨g,hv,_⟩:=r2.own;exact⟨q.out.grown hg (bS _ q.off.1),q.map.kept hg (bS _ q.off.2.1),⟨v,r1.grown hg (bS _ q.off.2.2),r2.kept hg (by rw[hv];exact bS _ (r3 g hv)),r3⟩,q.off,q.nodup,q.ok,q.head,q.low⟩
 sub:=by intro V w L L' q hs;obtain⟨v,r1,r2,r3⟩:=q.queue;exact⟨q.out,q.map,⟨v,r1,r2,fun g hg hm=>r3 g hg (hs g hm)⟩,⟨fun m=>q.off.1 (hs _ m),fun m=>q.off.2.1 (hs _ m),fun m=>q.off.2.2 (hs _ m)⟩,q.nodup,q.ok,q.head,q.low⟩
theorem Om{β:Type}{V:List (List Int×β)}{s:List Int}{x:β}(hn:(V.map (·.1)).Nodup)(h:ba V s=none):((V++ [(s,x)]).map (·.1)).Nodup:=by
 rw[List.map_append,List.nodup_append];refine⟨hn,by simp,?_⟩;intro a ha b hb e;subst e;have:a=s:=by simpa using hb
 subst this;exact wG.1 h ha
theorem Qp(l:List Clk)(cal:List Int->Bool)(BO BM BQ p:Nat)(h:List Int)(d:Int)(w0:World)(hc:bA l=0)(aZ:aI l h):
  SU (QSt l w0.heap.size BO BM BQ p h d) (jj d) l cal h BO BQ w0:=by
 intro t V w L ht hg dU hL;have Ff:=(PQ ht aZ).1;obtain⟨v,r1,r2,r3⟩:=dU.queue;have hVl:=Ht dU.nodup (fun q hq=>(dU.ok q hq).1);have Cl:=(bm hc).2.2.1;have Fz:=m8 hc Ff;obtain⟨w1,qy⟩:∃w1:World,Hid (w1=w.alloc (.cells #[.int .i64 1,.int .i64 t.1,.int .i64 t.2.1] 42)):=⟨_,aa rfl⟩;have G1:Hid (Gr w w1):=aa (by rw[qy.out];exact(gfl _).alloc _);have S1:Hid (QSt l w0.heap.size BO BM BQ p h d V w1 L):=aa ((IZ l w0.heap.size BO BM BQ p h d).keep _ _ _ _ none dU (G1.out.by none) (fun b e=>by cases e));have LK:=Ch S1.out.map Fz;rw[pS (fun q hq=>(dU.ok q hq).1) Ff] at LK;have o0:=dU.out.cell 0 (by simp);simp only[List.getElem_cons_zero] at o0;have oh:=dU.out.has;have HG:=aa hg;have HLs:=aa hL;have TO:=aa Ff;have HS:=aa dU;rw[qy.out] at LK;clear dU Ff Fz hL hg r1 r2 r3 v;cases hl:ba V t.2.2 with
 |some x=>rw[hl] at LK;simp only[Option.getD_some,Option.isSome_some] at LK;have HA:Hid (jj d V t=V):=aa (by unfold jj;rw[hl];rfl);clear hl;obtain⟨n,hn⟩:∃n,num l t.2.2=n:=⟨_,rfl⟩;rw[hn] at LK ⊢;go_enter Tryz.func162,Tryz.ntmps162;go_wp2_with fail;go_end0;rw[<-qy.out];exact⟨rfl,by rw[HA.out];exact S1.out,HG.out.trans G1.out,fun b hb=>G1.out.below.block b (HLs.out b hb),G1.out.size⟩
 |none=>
  rw[hl] at LK;simp only[Option.getD_none,Option.isSome_none] at LK;have HA:Hid (jj d V t=V++ [(t.2.2,d+1)]):=aa (by unfold jj;rw[hl];rfl);have HLK:=aa hl;have HD:Hid (0<=d/\d<4096):=aa (by have:=(HS.out.ok _ (List.mem_of_getElem? HS.out.head)).2;simp only at this;omega)
  have HH:Hid (ba V h=some d):=aa (uV HS.out.nodup (List.mem_of_getElem? HS.out.head));clear hl;obtain⟨n,hn⟩:∃n,num l t.2.2=n:=⟨_,rfl⟩;have HN:=aa hn;rw[hn] at LK ⊢;clear hn;go_enter Tryz.func162,Tryz.ntmps162;go_wp2_with fail;rw[<-qy.out];clear LK o0 oh;have o0:=S1.out.out.cell 0 (by simp);have oh:=S1.out.out.has;obtain⟨v,r1,r2,r3⟩:=S1.out.queue;have q0:=r1.cell 0 (by simp);have qh:=r1.has;simp only[List.getElem_cons_zero] at o0 q0;have wV:V.drop p=(h,d)::V.drop (p+1):=by have:=S1.out.head;obtain⟨hp,e⟩:=List.getElem?_eq_some_iff.1 this;rw[List.drop_eq_getElem_cons hp,e]
  have r2':=r2;rw[wV,List.map_cons] at r2';obtain⟨g,off,cap,rfl,hh,la,hcm,hbg,_⟩:=r2'.head;have hwh:=m8 hc aZ;have LKX:∀(O:Array Obj) (dd:Nat),(Instr.lookup 161 (.map (some BM)) (.int .i64 (num l h)) false).run Tryz.prog (xt w1 O dd)= .ok (.int .i64 d) (xt w1 O dd):=fun O dd=>by have:=se (S1.out.map.gr ((gfl _).xt O dd)) hwh;rw[pS (fun q hq=>(HS.out.ok q hq).1) aZ,HH.out] at this;exact this
  obtain⟨m,hm⟩:∃m,num l h=m:=⟨_,rfl⟩;rw[hm] at LKX hh;have hd:=HD.out;have hgh:=ae hh;simp only[List.length_map,List.length_cons] at*;refine bZ 8 (by kernel_rfl) (by kernel_rfl) ?_;simp only[List.take_succ_cons,List.take_zero,List.drop_succ_cons,List.drop_zero];repeat(go_big_quiet_step (fail))
  refine wpQuiet_nil ?_;rintro _ ⟨⟨O,dd⟩,rfl⟩;obtain⟨W2,hW2⟩:∃W2:World,Hid (W2=xt w1 O dd):=⟨_,aa rfl⟩;show wpList _ _ _ _ _ (xt w1 O dd);rw[<-hW2.out];have G2:Hid (Gr w1 W2):=aa (by rw[hW2.out];exact(gfl _).xt O dd);have S2:=aa ((IZ l w0.heap.size BO BM BQ p h d).keep _ _ _ _ none S1.out (G2.out.by none) (fun b e=>by cases e));have SR:=zJ S2.out.map (k:=n) (by rw[<-HN.out];exact m8 hc TO.out) (by rw[<-HN.out,pS (fun q hq=>(HS.out.ok q hq).1) TO.out];exact HLK.out) (by rw[List.length_map];unfold maxLen;omega) (d+1) (by unfold aK;omega);obtain⟨v,r1,r2,r3⟩:=S2.out.queue;have RV:=aa r1;have QV:=aa r2;have RL:=aa r3;obtain⟨gq,hvq,_,Fq⟩:=r2.own;have HVQ:=aa hvq;have nq:Hid (BM≠BQ):=aa (S2.out.map.ne_row r1);have ng:Hid (BM≠gq):=aa (by
   obtain⟨g',off',cap',arr',rfl,_,kF,_⟩:=r2;have:g'=gq:=by simpa [Value.ownBlock] using hvq
   subst this;exact S2.out.map.ne_row kF)
  have nr:Hid (gq≠BQ):=aa (by
   obtain⟨g',off',cap',arr',rfl,_,kF,_⟩:=r2;have:g'=gq:=by simpa [Value.ownBlock] using hvq
   subst this;exact kF.s.apart r1.s (by decide))
  obtain⟨j0,hj,kN,ka,lg⟩:=info_parts eS;have no1:Hid (BM≠BO):=aa (S2.out.map.ne_row S2.out.out);have no2:Hid (BO≠BQ):=aa (S2.out.out.s.apart r1.s (by decide));have no3:Hid (BO≠gq):=aa (by
   obtain⟨g',off',cap',arr',rfl,_,kF,_⟩:=r2;have:g'=gq:=by simpa [Value.ownBlock] using hvq
   subst this;exact S2.out.out.s.apart kF.s (by decide))
  have GQ:Hid (Has W2 gq):=aa Fq;have xl:Hid (((V.drop p).map fun q=>Value.int .i64 (num l q.1)).length+1<=1000000):=aa (by simp;omega);have HC:=aa hc;have HSET:=aa aZ;clear r1 r2 r3 wV hh la hcm hbg o0 q0 hm LKX hgh hW2 hVl oh qh hc aZ hvq Fq;go_wp2_with (first
   |(at_mapUpdate;refine wZ _ rfl _ _ _ _ rfl rfl rfl rfl SR ?_;rintro W3 ⟨iz,cG⟩;have R3:=aa (RV.out.grown cG (fun e=>nq.out (Option.some.inj e).symm));have Q3:=aa (QV.out.kept cG (by rw[HVQ.out];exact fun e=>ng.out (Option.some.inj e).symm));have q3:=R3.out.cell 0 (by simp);have q3h:=R3.out.has;have q3f:=R3.out.free 0;simp only[List.getElem_cons_zero] at q3;have M3:=aa iz;have G3:=aa cG;clear iz cG)
   |(at_builtin;refine DB _ rfl _ _ 22 rfl w0.heap.size 3 j0 (.int .i64 0) Tryz.underlying22 hj kN ka lg rfl v _ rfl (Q3.out.kept (World.grownBy_alloc W3 _ none) (by rw[HVQ.out];simp)) ⟨W3.heap.size,0,none⟩ 1 (.int .i64 n) rfl (by simp) rfl xl.out (by have h1:=(HG.out.trans (G1.out.trans G2.out)).size;have h2:=G3.out.size;simp;omega) ?_;rintro v' W4 hq4 gy Vw;obtain⟨g4,off4,cap4,rfl⟩:=hq4.sl;have R4:=aa ((R3.out.alloc (.cells #[.int .i64 n] 3)).grown gy (by rw[HVQ.out];exact fun e=>nr.out (Option.some.inj e).symm));have r4:=R4.out.cell 0 (by simp);have r4h:=R4.out.has;have r4f:=R4.out.free 0;have Q4:=aa hq4;have G4:=aa gy;have O4:=aa Vw;clear hq4 gy Vw)
   |fail)
  go_end0;obtain⟨nv,rV⟩:∃nv,nv=Value.slice (some ⟨g4,off4,none⟩) (V.length-p+1) cap4:=⟨_,rfl⟩;rw[<-rV];have hq5:QAt W4 w0.heap.size 3 nv (((V.drop p).map fun q=>Value.int .i64 (num l q.1))++ [.int .i64 n]):=by have:=Q4.out;rw[rV];simpa using this
  have ho4:nv.ownBlock=some g4:=by rw[rV];rfl
  have ho5:∀b,b∈L->b≠BM/\b≠BQ/\b≠gq/\b<w.heap.size:=fun b hb=>⟨fun e=>S2.out.off.2.1 (e▸hb),fun e=>S2.out.off.2.2 (e▸hb),fun e=>RL.out gq HVQ.out (e▸hb),HLs.out b hb⟩
  have z12:w.heap.size<=W2.heap.size:=Nat.le_trans G1.out.size G2.out.size;have Zo:=G3.out.size;have z3:(W3.alloc (.cells #[.int .i64 n] 3)).heap.size=W3.heap.size+1:=by simp
  have Zk:=G4.out.size;have hg4':g4=gq∨W3.heap.size+1<=g4:=by
   rcases O4.out with e|⟨g',e,mI⟩
   ·left;rw[HVQ.out] at e;simpa [Value.ownBlock] using e
   right;have:g4=g':=by simpa [Value.ownBlock] using e
   subst this;omega
  have Cg:Gr w0 W4:=by
   have h3:=Gr.grown (HG.out.trans (G1.out.trans G2.out)) G3.out (fun k e=>by injection e with e;subst e;exact S2.out.low.2.1);refine Gr.grown (h3.alloc (.cells #[.int .i64 n] 3)) G4.out (fun k e=>?_);rw[HVQ.out] at e;injection e with e;subst e;obtain⟨_,_,hb,_⟩:=QV.out.own;obtain⟨g',off',cap',arr',e',ij,_⟩:=QV.out;rw[e'] at HVQ;have:g'=gq:=by simpa [Value.ownBlock] using HVQ.out
   omega
  have hbq:Has W2 BQ:=RV.out.has;refine⟨rfl,?_,Cg.setc S2.out.low.2.2,?_,?_⟩
  ·rw[HA.out];refine⟨?_,?_,⟨nv,?_,?_,?_⟩,S2.out.off,Om HS.out.nodup HLK.out,?_,?_,S2.out.low⟩
   ·refine Row.oth ?_ (Ne.symm no2.out);exact(((S2.out.out.grown G3.out (fun e=>no1.out (Option.some.inj e).symm)).alloc _).grown G4.out (by rw[HVQ.out];exact fun e=>no3.out (Option.some.inj e)))
   ·rw[List.map_append];have:=((M3.out.gr ((gfl _).alloc (.cells #[.int .i64 n] 3))).kept G4.out (by rw[HVQ.out];exact fun e=>ng.out (Option.some.inj e))).kept (cA W4 BQ 0 nv) (fun e=>nq.out (Option.some.inj e));simp only[List.map_cons,List.map_nil,HN.out];exact this
   ·exact R4.out.set 0 _
   ·have:=hq5.kept (cA W4 BQ 0 nv) (by
     intro e;have e':g4=BQ:=Option.some.inj (ho4.symm.trans e);rcases hg4' with h|h
     ·exact nr.out (h.symm.trans e')
     unfold Has at hbq;omega)
    have hp:p<=V.length:=Nat.le_of_lt (List.getElem?_eq_some_iff.1 HS.out.head).1;rw[List.drop_append_of_le_length hp,List.map_append];simp only[List.map_cons,List.map_nil,HN.out];simpa using this
   ·intro g hg hm;have:g4=g:=Option.some.inj (ho4.symm.trans hg);subst this;have:=ho5 _ hm;rcases hg4' with h|h
    ·exact this.2.2.1 h
    omega
   ·intro q hq;rw[List.length_append];rcases List.mem_append.1 hq with hq|hq
    ·have:=HS.out.ok q hq;exact⟨this.1,this.2.1,by simp;omega⟩
    have:q=(t.2.2,d+1):=(by simpa using hq);subst this;have:=(HS.out.ok _ (List.mem_of_getElem? HS.out.head)).2;simp only at this;exact⟨TO.out,by simp;omega,by simp;omega⟩
   rw[List.getElem?_append_left (List.getElem?_eq_some_iff.1 HS.out.head).1];exact HS.out.head
  ·intro b hb;obtain⟨h1,h2,h3,h4⟩:=ho5 b hb;rw[(cA W4 BQ 0 _).block b (by omega) (fun e=>h2 (Option.some.inj e)),G4.out.block b (by omega) (by rw[HVQ.out];exact fun e=>h3 (Option.some.inj e)),
    (World.grownBy_alloc W3 (.cells #[.int .i64 n] 3) none).block b (by omega) (by simp),G3.out.block b (by omega) (fun e=>h1 (Option.some.inj e)),G2.out.below.block b (by have:=G1.out.size;omega),G1.out.below.block b h4]
  have:=(cA W4 BQ 0 nv).size;simp only[bQ] at this ⊢;omega
structure RSt(l:List Clk)(ms:List Lmt)(al am:Option Addr)(cl cm BK XB BO BM:Nat)(L0:List Nat)(w0 w:World)(src:List Int)(p:Nat)(BQ:Nat)(wr:World):Prop where
 le:p<=(aW (nbS l (aG l ms)) src p).length
 out:Row wr BO 161 [.map (some BM)]
 map:xx wr BM ((aW (nbS l (aG l ms)) src p).map fun q=>(num l q.1,q.2))
 queue:∃v,Row wr BQ 22 [v]/\((p<(aW (nbS l (aG l ms)) src p).length/\QAt wr w0.heap.size 3 v (((aW (nbS l (aG l ms)) src p).drop p).map fun q=> .int .i64 (num l q.1))/\∀g,v.ownBlock=some g->g∉XB::L0)∨(p=(aW (nbS l (aG l ms)) src p).length/\∃a c,v= .slice a 0 c))
 dists:∀q∈aW (nbS l (aG l ms)) src p,0<=q.2/\q.2<((aW (nbS l (aG l ms)) src p).length:Int)
 box:Row wr XB 158 [.slice al l.length cl,.slice am ms.length cm,.map (some BK)]
 kn:Kn wr BK l (aG l ms)
 gr:Gr w0 wr
 keep:∀b∈L0,b≠BK->wr.heap[b]?=w.heap[b]?
 size:w.heap.size<=wr.heap.size
 low:w.heap.size<=XB/\w.heap.size<=BO/\w.heap.size<=BM/\w.heap.size<=BQ
theorem Lu{l:List Clk}{ms:List Lmt}{al am:Option Addr}{cl cm BK XB BO BM:Nat}{L0:List Nat}{w0 w:World}{src:List Int}{p BQ:Nat}{wr W5 W6:World}{h:List Int}{d:Int}{v3:Value}
  (hS:RSt l ms al am cl cm BK XB BO BM L0 w0 w src p BQ wr) (g5:Gr wr W5) (hL:∀b∈L0,Has w b) (hx:XB≠BK) (h1:QSt l w0.heap.size BO BM BQ p h d (aW (nbS l (aG l ms)) src (p+1)) W6 (XB::L0)) (h2:Gr w0 W6) (h3:Kn W6 BK l (aG l ms))
  (h4:∀b∈XB::L0,b≠BK->W6.heap[b]?=W5.heap[b]?) (h5:W5.heap.size<=W6.heap.size)
  (hv:(p+1<(aW (nbS l (aG l ms)) src (p+1)).length/\QAt W6 w0.heap.size 3 v3 (((aW (nbS l (aG l ms)) src (p+1)).drop (p+1)).map fun q=> .int .i64 (num l q.1))/\∀g,v3.ownBlock=some g->g∉XB::L0)∨(p+1=(aW (nbS l (aG l ms)) src (p+1)).length/\∃a c,v3= .slice a 0 c)):
  RSt l ms al am cl cm BK XB BO BM L0 w0 w src (p+1) W6.heap.size (W6.alloc (.cells #[v3] 22)) where
 le:=by rcases hv with h|h<;>omega
 out:=h1.out.alloc _
 map:=h1.map.gr ((gfl _).alloc _)
 queue:=⟨v3,Row.new _ _ _,by
  rcases hv with⟨a,b,c⟩|h
  ·exact .inl ⟨a,b.kept (World.grownBy_alloc _ _ none) (by obtain⟨g,e,_⟩:=b.own;rw[e];simp),c⟩
  exact .inr h⟩
 dists:=fun q hq=>(h1.ok q hq).2
 box:=by
  have:=hS.box.gr g5;unfold Row at this;have r:Row W6 XB 158 [.slice al l.length cl,.slice am ms.length cm,.map (some BK)]:=by unfold Row;rw[h4 XB (by simp) hx];exact this
  exact r.alloc _
 kn:=h3.gr ((gfl _).alloc _)
 gr:=h2.alloc _
 keep:=fun b hb bS=>by have hbl:=hL b hb;unfold Has at hbl;have:=hS.size;have:=g5.size;rw[((Gr.refl W6).alloc (.cells #[v3] 22)).below.block b (by omega),h4 b (List.mem_cons_of_mem _ hb) bS,g5.below.block b (by omega)];exact hS.keep b hb bS
 size:=by have:=hS.size;have:=g5.size;have:=((Gr.refl W6).alloc (.cells #[v3] 22)).size;omega
 low:=by have:=hS.low;have:=hS.size;have:=g5.size;omega
theorem Sb(l:List Clk)(ms:List Lmt)(src:List Int)(al am:Option Addr)(cl cm BK:Nat)(L0:List Nat)(w0 w:World)
  (bH:Env w0 l ms al am) (tY:Gr w0 w) (aZ:aI l src) (zi:aG l ms src=true) (hk:Kn w BK l (aG l ms)) (xK:w0.heap.size<=BK) (hL:∀b∈L0,Has w b) (hBK:BK∈L0):
  Calls Tryz.prog 116 #[spV l ms al am cl cm BK,.int .i64 (num l src)] w fun e w'=>∃(BM:Nat) (V:List (List Int×Int)),
   e= .returned (.map (some BM))/\w.heap.size<=BM/\xx w' BM (V.map fun q=>(num l q.1,q.2))/\(∀q∈V,aI l q.1/\0<=q.2/\q.2<4096)/\jc l (aG l ms) src (ba V)/\
   Gr w0 w'/\Kn w' BK l (aG l ms)/\(∀b∈L0,b≠BK->w'.heap[b]?=w.heap[b]?)/\w.heap.size<=w'.heap.size:=by
 have hwn:=m8 bH.chk aZ;have Cl:=(bm bH.chk).2.2.1;have HE:=aa bH;have HG0:=aa tY;have HT:=aa aZ;have HC:=aa zi;have HL:=aa hL;have HB:=aa hBK;have HK:=aa hk;have CF:=aa xK;obtain⟨n,hn⟩:∃n,num l src=n:=⟨_,rfl⟩;have HN:=aa hn;rw[hn] at hwn ⊢;have SR:=zJ (w:=(w.alloc (.cells #[.slice al l.length cl,.slice am ms.length cm,.map (some BK)] 158)).alloc (.map #[] 0)) (B:=w.heap.size+1) (V:= []) (k:=n)
  (by have:=lC.made (β:=Int) (w.alloc (.cells #[.slice al l.length cl,.slice am ms.length cm,.map (some BK)] 158)) 3 (Lit.int .i64);simpa using this) hwn rfl (by unfold maxLen;simp) 0 (by unfold aK;omega)
 obtain⟨W3,wk,iz,cG⟩:=SR;have Al:= @run_makeMap Tryz.prog;clear bH tY aZ zi hL hBK hk xK hwn hn;have M3:=aa iz;have G3:=aa cG;clear iz cG;go_enter Tryz.func116,Tryz.ntmps116;go_wp2_with fail;obtain⟨XB,hXB⟩:∃XB:Nat,Hid (w.heap.size=XB):=⟨_,aa rfl⟩;obtain⟨BM,hBM⟩:∃BM:Nat,Hid (w.heap.size+1=BM):=⟨_,aa rfl⟩;obtain⟨BO,hBO⟩:∃BO:Nat,Hid (W3.heap.size=BO):=⟨_,aa rfl⟩;obtain⟨BG,hBG⟩:∃BG:Nat,Hid (W3.heap.size+1=BG):=⟨_,aa rfl⟩;obtain⟨BQ0,hBQ0⟩:∃BQ0:Nat,Hid (W3.heap.size+1+1=BQ0):=⟨_,aa rfl⟩;rw[hBQ0.out,hBG.out,hBM.out,hBO.out,hXB.out];obtain⟨W4,hW4⟩:∃W4:World,Hid (W4=((W3.alloc (.cells #[.map (some BM)] 161)).alloc (.cells #[.int .i64 n] 3)).alloc (.cells #[.slice (some ⟨BG,0,none⟩) 1 1] 22)):=⟨_,aa rfl⟩;rw[<-hW4.out];have z3:Hid (w.heap.size+2<=W3.heap.size):=aa (by have:=G3.out.size;simp at this;omega);have GW:Hid (w.grownBy W3 (some BM)):=aa (by rw[<-hBM.out];exact(((World.grownBy_alloc w _ _).trans (World.grownBy_alloc _ (.map #[] 0) _)).trans G3.out))
 have KC:Hid (Gr W3 W4):=aa (by rw[hW4.out];exact(((gfl _).alloc _).alloc _).alloc _);have low:Hid (w.heap.size<=XB/\w.heap.size<=BO/\w.heap.size<=BM/\w.heap.size<=BQ0):=aa (by have:=z3.out;have:=hXB.out;have:=hBO.out;have:=hBM.out;have:=hBQ0.out;omega)
 have S4:Hid (RSt l ms al am cl cm BK XB BO BM L0 w0 w src 0 BQ0 W4):=aa
  {le:=Nat.zero_le _,
   out:=by rw[hW4.out,<-hBO.out];exact((Row.new W3 _ _).alloc _).alloc _,
   map:=by have:=M3.out.gr KC.out;rw[hBM.out] at this;simpa [aW,HN.out] using this,
   queue:=⟨.slice (some ⟨BG,0,none⟩) 1 1,by
    rw[hW4.out,<-hBQ0.out];exact sZ _ _ _ _ (by simp),.inl ⟨by simp[aW],⟨BG,0,1,[.int .i64 n],by simp[aW],by have:=z3.out;have:=hBG.out;have:=HG0.out.size;omega,by
     rw[hW4.out,<-hBG.out];exact(sZ _ _ _ _ (by simp)).alloc _,by simp[aW],by simp[maxLen],by simp,fun j u hj=>by simpa [aW,HN.out] using hj⟩,fun g hg=>by
      have:BG=g:=(by simpa [Value.ownBlock] using hg);subst this;have:=z3.out;have:=hBG.out;have:=hXB.out;intro hm;rcases List.mem_cons.1 hm with e|hm
      ·omega
      have:=HL.out _ hm;unfold Has at this;omega⟩⟩,
   dists:=by
    intro q hq;have:q=(src,0):=by simpa [aW] using hq
    subst this;simp[aW],
   box:=by
    have:Row (w.alloc (.cells #[.slice al l.length cl,.slice am ms.length cm,.map (some BK)] 158)) XB 158 [.slice al l.length cl,.slice am ms.length cm,.map (some BK)]:=by rw[<-hXB.out];exact Row.new w _ _
    exact(((this.alloc (.map #[] 0)).grown G3.out (fun e=>by injection e with e;have:=hXB.out;omega)).gr KC.out),
   kn:=(HK.out.kept GW.out (fun e=>by injection e with e;have:=hBM.out;have:=HK.out.has;unfold Has at this;omega)).gr KC.out,
   gr:=(HG0.out.grown GW.out (fun k e=>by injection e with e;have:=hBM.out;have:=HG0.out.size;omega)).trans KC.out,
   keep:=fun b hb _=>by have h1:=HL.out b hb;unfold Has at h1;rw[KC.out.below.block b (by have:=z3.out;omega),GW.out.block b h1 (fun e=>by injection e with e;have:=hBM.out;omega)],
   size:=by have:=z3.out;have:=KC.out.size;omega,
   low:=low.out}
 clear wk Al hW4 M3 G3 GW KC z3 hBG
 go_loopg [6] (bF l) (fun g q wr=>∃p BQ,g=bF l-p/\q= .pointer (some ⟨BQ,0,none⟩)/\RSt l ms al am cl cm BK XB BO BM L0 w0 w src p BQ wr)
 case atStart=>exact⟨0,BQ0,by simp,rfl,S4.out⟩
 case round=>
  clear S4 low;obtain⟨p,BQ,hgk,rfl,hS⟩:=hrel;have HS:=aa hS;have HGK:=aa hgk;obtain⟨v,r1,hq⟩:=hS.queue;have gO:=mP (l:=l) HT.out HC.out p;rcases hq with⟨dw,qa,qg⟩|⟨hpe,a,c,rfl⟩
  ·obtain⟨⟨h,d⟩,zL⟩:∃hd,(aW (nbS l (aG l ms)) src p)[p]?=some hd:=⟨_,List.getElem?_eq_getElem dw⟩;have hok:=mX (l:=l) (cal:=aG l ms) HT.out HC.out p;have U7:=(hok _ (List.mem_of_getElem? zL)).1;have wV:(aW (nbS l (aG l ms)) src p).drop p=(h,d)::(aW (nbS l (aG l ms)) src p).drop (p+1):=by
    obtain⟨hp,e⟩:=List.getElem?_eq_some_iff.1 zL;rw[List.drop_eq_getElem_cons hp,e]
   have qa2:=qa;rw[wV,List.map_cons] at qa2;obtain⟨g,off,cap,rfl,hh,la,hcm,hbg,_⟩:=qa2.head;have q0:=r1.cell 0 (by simp);have qh:=r1.has;have x0:=hS.box.cell 0 (by simp);have x1:=hS.box.cell 1 (by simp);have x2:=hS.box.cell 2 (by simp);have xh:=hS.box.has;have gh:=ae hh;simp only[List.getElem_cons_zero,List.getElem_cons_succ] at q0 x0 x1 x2;simp only[List.length_map] at q0 la;obtain⟨m,hm⟩:∃m,num l h=m:=⟨_,rfl⟩;have HM:=aa hm;rw[hm] at hh;have R1:=aa r1;have QA:=aa qa;have QG:=aa qg;have HH:=aa zL;have SH:=aa U7;have HPL:=aa dw;clear hS hgk r1 qa qa2 qg zL hok U7 wV hm;go_wp2_with fail;refine bZ 5 (by kernel_rfl) (by kernel_rfl) ?_;simp only[List.take_succ_cons,List.take_zero,List.drop_succ_cons,List.drop_zero];repeat(go_big_quiet_step (fail))
   refine wpQuiet_nil ?_;rintro _ ⟨⟨O,dd⟩,rfl⟩;obtain⟨W5,hW5⟩:∃W5:World,Hid (W5=xt wr O dd):=⟨_,aa rfl⟩;show wpList _ _ _ _ _ (xt wr O dd);rw[<-hW5.out];have G5:Hid (Gr wr W5):=aa (by rw[hW5.out];exact(gfl _).xt O dd);have q5:=IZ l w0.heap.size BO BM BQ p h d;have low:=HS.out.low;have hR5:=R1.out.gr G5.out;have hQ5:QAt W5 w0.heap.size 3 (.slice (some ⟨g,off,none⟩) ((aW (nbS l (aG l ms)) src p).length-(p+1)+1) cap) (((aW (nbS l (aG l ms)) src p).drop p).map fun q=> .int .i64 (num l q.1)):=by have:=QA.out.kept (G5.out.by none) (by simp[Value.ownBlock]);simpa using this
   have hok:=mX (l:=l) (cal:=aG l ms) HT.out HC.out p;have hb0:=HG0.out.size;have nBO:BO≠XB:=HS.out.out.s.apart HS.out.box.s (by decide);have nBM:BM≠XB:=HS.out.map.ne_row HS.out.box;have nBQ:BQ≠XB:=R1.out.s.apart HS.out.box.s (by decide);have fD:∀b,w.heap.size<=b->b≠XB->b∉XB::L0:=fun b hb hx hm=>by
    rcases List.mem_cons.1 hm with e|hm
    ·exact hx e
    have:=HL.out _ hm;unfold Has at this;omega
   have dU:∀w1 L,Gr W5 w1->(∀b∈L,b∈XB::L0∨W5.heap.size<=b)->QSt l w0.heap.size BO BM BQ p h d (aW (nbS l (aG l ms)) src p) w1 L:=fun w1 L bD hb1=>by
    have Cy:∀b,Has W5 b->b∉XB::L0->b∉L:=fun b hb hn hm=>by
     rcases hb1 b hm with e|e
     ·exact hn e
     unfold Has at hb;omega
    have hz:=G5.out.size;have a1:Has W5 BO:=(HS.out.out.gr G5.out).has;have a2:Has W5 BM:=(HS.out.map.gr G5.out).has;have a3:Has W5 BQ:=hR5.has;exact
    {out:=(HS.out.out.gr G5.out).gr bD,
     map:=(HS.out.map.gr G5.out).gr bD,
     queue:=⟨_,by have:=hR5.gr bD;simpa using this,hQ5.kept (bD.by none) (by simp[Value.ownBlock]),fun g' oq=>by obtain⟨g2,hv2,_,hh2⟩:=hQ5.own;have:g'=g2:=Option.some.inj (oq.symm.trans hv2);subst this;exact Cy _ hh2 (QG.out _ (by simpa [Value.ownBlock] using hv2))⟩,
     off:=⟨Cy _ a1 (fD _ low.2.1 nBO),Cy _ a2 (fD _ low.2.2.1 nBM),Cy _ a3 (fD _ low.2.2.2 nBQ)⟩,
     nodup:=(qW.after _ src p).nodup,
     ok:=fun q hq=>⟨(hok q hq).1,HS.out.dists q hq⟩,
     head:=HH.out,
     low:=by omega}
   have EC:=Sr (QSt l w0.heap.size BO BM BQ p h d) (jj d) l ms h al am cl cm BK BO BQ (XB::L0) w0 W5 (aW (nbS l (aG l ms)) src p) HE.out (HS.out.gr.trans G5.out) SH.out (HS.out.kn.gr G5.out) CF.out
    (fun b hb=>by
     rcases List.mem_cons.1 hb with e|hb
     ·subst e;exact(HS.out.box.gr G5.out).has
     have:=HL.out b hb;have:=HS.out.size;have:=G5.out.size;unfold Has at*;omega)
    (List.mem_cons_of_mem _ HB.out) q5 dU (Qp l (aG l ms) BO BM BQ p h d w0 HE.out.chk SH.out)
   have kX:(nbS l (aG l ms) h).foldl (jj d) (aW (nbS l (aG l ms)) src p)=aW (nbS l (aG l ms)) src (p+1):=by simp only[aW,qu];rw[HH.out]
   rw[kX,HM.out] at EC;have EC':=aa EC;have NXB:Hid (XB≠BK):=aa (by have:=HL.out BK HB.out;unfold Has at this;omega);have HZ:Hid (BO≠XB/\BM≠XB):=aa ⟨nBO,nBM⟩;have HNOT:=aa fD;clear EC dU kX q5 low hR5 hQ5 hok hb0 nBO nBM nBQ fD q0 qh x0 x1 x2 xh gh hh hW5;go_wp2_with fail;refine EC'.out.mono ?_;rintro e W6 ⟨rfl,i1,i2,i3,i4,i5⟩;obtain⟨v6,r6,qa6,qg6⟩:=i1.queue;have wV:(aW (nbS l (aG l ms)) src (p+1)).drop p=(h,d)::(aW (nbS l (aG l ms)) src (p+1)).drop (p+1):=by obtain⟨hp,e⟩:=List.getElem?_eq_some_iff.1 i1.head;rw[List.drop_eq_getElem_cons hp,e]
   have hpl6:p<(aW (nbS l (aG l ms)) src (p+1)).length:=(List.getElem?_eq_some_iff.1 i1.head).1;rw[wV,List.map_cons] at qa6;obtain⟨g6,off6,cap6,rfl,hh6,hcap6,hcm6,hbg6,Vo⟩:=qa6.head;have q6:=r6.cell 0 (by simp);have qh6:=r6.has;simp only[List.getElem_cons_zero] at q6;simp only[List.length_map,List.length_drop] at q6 hcap6;have I1:=aa i1;have I2:=aa i2;have I3:=aa i3;have I4:=aa i4;have I5:=aa i5;have R6:=aa r6;have QA6:=aa qa6;have QG6:=aa qg6;have TL:=aa Vo;have PL6:=aa hpl6;clear i1 i2 i3 i4 i5 r6 qa6 qg6 Vo hh6 wV EC' gO;go_wp2_with fail
   ·rename_i oC
    go_roundg (bF l-(p+1))
    case measure=>have:=HGK.out;have:=mP (l:=l) HT.out HC.out p;have:=HPL.out;omega
    case rel=>refine⟨p+1,W6.heap.size,rfl,rfl,Lu HS.out G5.out HL.out NXB.out I1.out I2.out I3.out I4.out I5.out (.inr ⟨by omega,_,_,by rw[show(aW (nbS l (aG l ms)) src (p+1)).length-(p+1)=0 by omega]⟩)⟩
   rename_i oC
   go_roundg (bF l-(p+1))
   case measure=>have:=HGK.out;have:=mP (l:=l) HT.out HC.out p;have:=HPL.out;omega
   case rel=>
    refine⟨p+1,W6.heap.size,rfl,rfl,Lu HS.out G5.out HL.out NXB.out I1.out I2.out I3.out I4.out I5.out ?_⟩;have t:=TL.out W6 QA6.out;simp only[List.length_map,List.length_drop] at t;by_cases yV:p+1<(aW (nbS l (aG l ms)) src (p+1)).length
    ·exact .inl ⟨yV,t,fun g' oq=>QG6.out g' (by simpa [Value.ownBlock] using oq)⟩
    exact .inr ⟨by have:=PL6.out;omega,_,_,by rw[show(aW (nbS l (aG l ms)) src (p+1)).length-(p+1)=0 by omega]⟩
  have o0:=hS.out.cell 0 (by simp);have q0:=r1.cell 0 (by simp);have qh:=r1.has;have oh:=hS.out.has;simp only[List.getElem_cons_zero] at q0 o0;have PE:=aa hpe;clear hS r1 gO hpe;go_wp2_with fail;go_ret;have hok:=mX (l:=l) (cal:=aG l ms) HT.out HC.out p;have gO:=mP (l:=l) HT.out HC.out p;exact⟨BM,_,rfl,HS.out.low.2.2.1,HS.out.map,fun q hq=>⟨(hok q hq).1,(HS.out.dists q hq).1,by have:=(HS.out.dists q hq).2;omega⟩,yS HT.out HC.out p (by rw[<-PE.out];exact Nat.le_refl _),HS.out.gr,HS.out.kn,HS.out.keep,HS.out.size⟩
def IW(l:List Clk)(ms:List Lmt)(al am:Option Addr)(cl cm:Nat)(w:World)(x y:Bool)(e:Ending)(w':World):Prop:=
 Gr w w'/\((x&&y)=true->∃BK,e= .returned (.tuple #[spV l ms al am cl cm BK,.int .i64 0])/\w.heap.size<=BK/\Dp w' BK [])/\((x&&y)=false->e= .returned (.tuple #[.agg #[.slice none 0 0,.slice none 0 0,.map none],.int .i64 7]))
theorem Hj(l:List Clk)(ms:List Lmt)(f t:List Int)(al am af at':Option Addr)(cl cm cf ct:Nat)(w:World)(bH:Env w l ms al am)(hf:aI l f)(ht:aI l t)(sf:ag 1 RI w af f)(st:ag 1 RI w at' t):
  Calls Tryz.prog 115 #[.slice al l.length cl,.slice af f.length cf,.slice at' t.length ct,.slice am ms.length cm] w (IW l ms al am cl cm w (aG l ms f) (aG l ms t)):=by
 have zB:=cg (bm bH.chk).1;have Bj:f.length=l.length:=hf.1;have htl:t.length=l.length:=ht.1;have Eg:=bH.lims.1;have ff:Fit l.length:=by unfold Fit;omega
 have ffm:Fit ms.length:=by unfold Fit;omega
 have HE:=aa bH;have SF:=aa sf;have ST:=aa st;have TF:=aa hf;have TT:=aa ht;have okF:Hid (∀W,Gr w W->Calls Tryz.prog 72 #[.slice al l.length cl,.slice af l.length cf] W (aN W (.bool true))):=aa fun W hW=>by have:=js l f al af cl cf W (bj bH.clks hW) (sf.giI hW) ff (by rw[Bj];exact ff);rwa [dtx ⟨bH.chk,hf⟩,Bj] at this
 have okT:Hid (∀W,Gr w W->Calls Tryz.prog 72 #[.slice al l.length cl,.slice at' l.length ct] W (aN W (.bool true))):=aa fun W hW=>by have:=js l t al at' cl ct W (bj bH.clks hW) (st.giI hW) ff (by rw[htl];exact ff);rwa [dtx ⟨bH.chk,ht⟩,htl] at this
 have okL:Hid (∀W,Gr w W->Calls Tryz.prog 110 #[.slice al l.length cl,.slice am ms.length cm] W (aN W (.bool true))):=aa fun W hW=>by have:=qF l ms al am cl cm W (bj bH.clks hW) ff (iR bH.lmts hW) ffm;rwa [dtx (show fC l ms from⟨bH.chk,Eg,bH.lims.2⟩)] at this
 have okC:Hid (∀W,Gr w W->Calls Tryz.prog 97 #[.slice al l.length cl] W (aN W (.int .i64 0))):=aa fun W hW=>by have:=ni l al cl W (bj bH.clks hW) ff;rwa [bH.chk] at this
 have cF:Hid (∀W,Gr w W->Calls Tryz.prog 159 #[.slice al l.length cl,.slice af l.length cf,.slice am ms.length cm] W (aN W (.bool (aG l ms f)))):=aa fun W hW=>by have:=yM l ms f al af am cl cf cm W (bj bH.clks hW) (sf.giI hW) (iR bH.lmts hW) bH.chk hf bH.lims (bH.off.gr hW);rwa [Bj] at this
 have cT:Hid (∀W,Gr w W->Calls Tryz.prog 159 #[.slice al l.length cl,.slice at' l.length ct,.slice am ms.length cm] W (aN W (.bool (aG l ms t)))):=aa fun W hW=>by have:=yM l ms t al at' am cl ct cm W (bj bH.clks hW) (st.giI hW) (iR bH.lmts hW) bH.chk ht bH.lims (bH.off.gr hW);rwa [htl] at this
 have Al:= @run_makeMap Tryz.prog;clear bH hf ht sf st ff ffm;obtain⟨xf,exf⟩:∃x,aG l ms f=x:=⟨_,rfl⟩;obtain⟨xt',ext'⟩:∃x,aG l ms t=x:=⟨_,rfl⟩;rw[exf] at cF ⊢;rw[ext'] at cT ⊢;clear exf ext';go_enter Tryz.func115,Tryz.ntmps115;go_wp2_with fail;refine(okC.out _ ((gfl _).alloc _)).mono ?_;rintro e w1 ⟨rfl,O1,D1,rfl⟩;go_wp2_with fail;refine(okL.out _ (((gfl _).alloc _).xt _ _)).mono ?_;rintro e w2 ⟨rfl,O2,D2,rfl⟩;go_wp2_with fail;refine(okF.out _ grr).mono ?_;rintro e w3 ⟨rfl,O3,D3,rfl⟩;go_wp2_with fail;refine(okT.out _ grr).mono ?_;rintro e w4 ⟨rfl,O4,D4,rfl⟩;go_wp2_with fail;cases xf with
 |false=>
  refine(cF.out _ grr).mono ?_;rintro e w5 ⟨rfl,O5,D5,rfl⟩;go_wp2_with fail;refine bodyPost_ret (v:= .tuple #[.agg #[.slice none 0 0,.slice none 0 0,.map none],.int .i64 7]) ?_ rfl ?_
  ·simp[results,Tryz.results115,go_sem]
  unfold IW;refine⟨grr,?_,?_⟩
  ·simp
  intro _;rfl
 |true=>
  refine(cF.out _ grr).mono ?_;rintro e w5 ⟨rfl,O5,D5,rfl⟩;go_wp2_with fail;cases xt' with
  |false=>
   refine(cT.out _ grr).mono ?_;rintro e w6 ⟨rfl,O6,D6,rfl⟩;go_wp2_with fail;refine bodyPost_ret (v:= .tuple #[.agg #[.slice none 0 0,.slice none 0 0,.map none],.int .i64 7]) ?_ rfl ?_
   ·simp[results,Tryz.results115,go_sem]
   unfold IW;refine⟨grr,?_,?_⟩
   ·simp
   intro _;rfl
  |true=>
   refine(cT.out _ grr).mono ?_;rintro e w6 ⟨rfl,O6,D6,rfl⟩;go_wp2_with fail;obtain⟨BK,hBK⟩:∃BK:Nat,Hid (w.heap.size+1+(O1.size+(O2.size+(O3.size+(O4.size+(O5.size+O6.size)))))=BK):=⟨_,aa rfl⟩;rw[hBK.out];obtain⟨W7,hW7⟩:∃W7:World,Hid (W7=xt (w.alloc (.cells #[.slice al l.length cl,.slice am ms.length cm,.map (some BK)] 158)) (O1++(O2++(O3++(O4++(O5++O6))))) D6):=⟨_,aa rfl⟩;rw[<-hW7.out];have z7:W7.heap.size=BK:=by rw[hW7.out,<-hBK.out];simp[xt]
   have R7:Row (W7.alloc (.map #[] 0)) w.heap.size 158 [.slice al l.length cl,.slice am ms.length cm,.map (some BK)]:=by rw[hW7.out];exact((Row.new w _ _).xt _ _).alloc _
   have f0:=R7.cell 0 (by simp);have f1:=R7.cell 1 (by simp);have f2:=R7.cell 2 (by simp);simp only[List.getElem_cons_zero,List.getElem_cons_succ] at f0 f1 f2;have GF:Gr w (W7.alloc (.map #[] 0)):=by rw[hW7.out];exact(((gfl w).alloc _).xt _ _).alloc _
   have MM:Dp (W7.alloc (.map #[] 0)) BK []:=by rw[<-z7];exact lC.made W7 _ _
   refine bodyPost_ret (v:= .tuple #[spV l ms al am cl cm BK,.int .i64 0]) ?_ rfl ?_
   ·simp[results,Tryz.results115,go_sem,f0,f1,f2]
   unfold IW;refine⟨GF,?_,?_⟩
   ·intro _;exact⟨BK,rfl,by have:=hBK.out;omega,MM⟩
   simp
end Go.Proofs.YtlmhkjdkcoiioaaGreatDoor
