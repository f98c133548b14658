/- Lemmas and contracts for the proof of LinkAnswers (several texts in one, printed by wip/tools/pack.py): LpC LpD LoD LoE LsA LsB LsC. -/
import Derived.Test.YtdjhnfopdlgliaaGreatLa1pt
import Derived.WalkMore
import Derived.Deep.LoopGhost
import Derived.Test.YtdjhnfopdlgliaaGreatLa1pq
set_option maxRecDepth 100000
set_option maxHeartbeats 16000000
set_option linter.unusedVariables false
set_option linter.unusedSimpArgs false
namespace Go.Proofs.YtdjhnfopdlgliaaGreat
open Go.RowKit
open Classical
theorem VL.smN{ts:Tr}(h:VL ts){k:Nat}(hk:k<ts.length):SmN (nd ts k):=by
 obtain⟨q1,q2,q3⟩:=h.sm hk
 obtain⟨q4,q5⟩:=h.asc hk
 exact⟨q1,q2,q3,by omega,fun p hp=>⟨by have:=q5 p hp;omega,by have:=h.vals hk p hp;omega⟩⟩
structure LI(base b len P3 g m c:Nat)(w wr:World)(ms:List NM):Prop where
 tr:TrAt base wr (.slice (some ⟨g,0,none⟩) m c) ms
 vl:VL (ms.map NM.n)
 ml:ms.length=m
 r3:Row wr P3 31 [.slice (some ⟨g,0,none⟩) m c]
 r2:Row wr base 31 [.slice none 0 0]
 mv:Mv b len w wr
 bb:b<base∧base<P3∧base=w.heap.size
theorem LI.move{base b len P3 g m c:Nat}{w wr w':World}{ms:List NM}(h:LI base b len P3 g m c w wr ms)(hm:Mv b len wr w'):LI base b len P3 g m c w w' ms:=by
 obtain⟨h1,h2,h3⟩:=h.bb
 exact⟨h.tr.mv h1 hm,h.vl,h.ml,hm.row h.r3 (by omega),hm.row h.r2 (by omega),h.mv.trans (by omega) hm,h.bb⟩
theorem LI.gr{base b len P3 g m c:Nat}{w wr w':World}{ms:List NM}(h:LI base b len P3 g m c w wr ms)(hg:Gr wr w'):LI base b len P3 g m c w w' ms:=
 ⟨h.tr.gr hg,h.vl,h.ml,h.r3.gr hg,h.r2.gr hg,h.mv.gr hg,h.bb⟩
theorem LI.at{base b len P3 g m c:Nat}{w wr:World}{ms:List NM}(h:LI base b len P3 g m c w wr ms){k:Nat}(hk:k<ms.length):
  wr.cell? ⟨g,k*3,none⟩=some (.int .i64 ms[k].n.parent)∧wr.cell? ⟨g,k*3+1,none⟩=some (.string (bs ms[k].n.name))∧
  wr.cell? ⟨g,k*3+2,none⟩=some (.slice ms[k].a ms[k].n.props.length ms[k].c)∧SlOf 2 RPrp wr ms[k].a ms[k].n.props∧(∀W,Gr wr W→W.frozen? ⟨g,k*3+2,none⟩=false)∧(∀W,Mv b len wr W→W.frozen? ⟨g,k*3+2,none⟩=false)∧(∀W,Mv b len wr W→SlOf 2 RPrp W ms[k].a ms[k].n.props)∧
  (ms[k].n.props.length≤1000∧(∀q∈ms[k].n.props,q.name.length≤1000∧q.val.length≤100000)∧ms[k].n.props.length≤ms[k].c):=by
 have hk2:k<(ms.map NM.n).length:=by rw[List.length_map];exact hk
 obtain⟨g',cap,e1,_,_,hc⟩:=owns_cell h.tr.own (by omega)
 cases e1
 have hf:=fun j (hj:j<3)=>flat_at NM.enc 3 (fun _=>rfl) ms k j hk hj
 have h2:∀j,j<3→wr.cell? ⟨g,k*3+j,none⟩=(NM.enc ms[k])[j]?:=fun j hj=>by rw[hc (k*3+j) (by omega)];exact hf j hj
 have hn:=h.tr.nds ms[k] (List.getElem_mem hk)
 have hsm:=hn.sm
 have sl:∀W,Mv b len wr W→SlOf 2 RPrp W ms[k].a ms[k].n.props:=fun W hm=>prps_sl ((h.move hm).tr.nds ms[k] (List.getElem_mem hk)).own hsm.prp
 refine⟨by have:=h2 0 (by omega);exact this,by have:=h2 1 (by omega);exact this,by have:=h2 2 (by omega);exact this,prps_sl hn.own hsm.prp,fun W hg=>?_,fun W hm=>?_,sl,hsm.len,hsm.prp,owns_cap2 hn.own⟩
 ·have q:=(h.tr.gr hg).own
  rw[h.ml] at q
  exact q.frozenAt _
 ·have q:=(h.move hm).tr.own
  rw[h.ml] at q
  exact q.frozenAt _
theorem LI.gne{base b len P3 g m c:Nat}{w wr:World}{ms:List NM}(h:LI base b len P3 g m c w wr ms):g≠P3∧g≠base∧base≤g∧g≠b:=by
 have hb:=owns_block h.tr.own g rfl
 have h1:=h.bb
 refine⟨?_,?_,hb.1,by omega⟩
 ·rcases h.tr.ne_ty h.r3.ty (by decide) with q|q
  ·cases q
  ·exact fun e=>q (by rw[e];rfl)
 ·rcases h.tr.ne_ty h.r2.ty (by decide) with q|q
  ·cases q
  ·exact fun e=>q (by rw[e];rfl)
theorem LI.put{base b len P3 g m c:Nat}{w wr w1:World}{ms:List NM}(h:LI base b len P3 g m c w wr ms){k:Nat}(hk:k<ms.length){x:Option Addr}{c2:Nat}{ps:List Prp}(hm:Mv b len wr w1)
  (ho:w1.ownsRow wr.heap.size 89 2 (.slice x ps.length c2) ps.length (ps.flatMap encP)) (hv:VL (setN (ms.map NM.n) k ps)):
  LI base b len P3 g m c w (w1.setCell ⟨g,k*3+2,none⟩ (.slice x ps.length c2)) (ms.set k ⟨{(ms[k]'hk).n with props:=ps},x,c2⟩):=by
 obtain⟨n1,n2,n3,n4⟩:=h.gne
 have bb:=h.bb
 have h1:=h.move hm
 have hk2:k<(ms.map NM.n).length:=by rw[List.length_map];exact hk
 have e:nd (ms.map NM.n) k=(ms[k]'hk).n:=by rw[nd_get hk2,List.getElem_map]
 have sm:SmN {(ms[k]'hk).n with props:=ps}:=by
  have q:=hv.smN (k:=k) (by unfold setN;rw[List.length_set];exact hk2)
  rw[nd_set_same hk2,e] at q
  exact q
 refine⟨h1.tr.put hk (owns_low ho (by have:=h.mv.size;omega)) sm,by rw[map_putN];exact hv,by rw[List.length_set];exact h.ml,h1.r3.oth (b:=g) (o:=k*3+2) n1,h1.r2.oth (b:=g) (o:=k*3+2) n2,h1.mv.setc (by omega),h.bb⟩
def GivesLT(base b len:Nat)(w:World)(e:Ending)(w':World):Prop:=∃(v:Value) (ms:List NM),e= .returned (.agg #[v])∧TrAt base w' v ms∧VL (ms.map NM.n)∧ms.length≤9∧Mv b len w w'
theorem cells_in:([35,99,101,108,108,115]:St)∈namesV:=by
 have q:namesV.contains ([35,99,101,108,108,115]:St)=true:=by kernel_rfl
 simpa using q
theorem clocks_in:([99,108,111,99,107,115]:St)∈namesV:=by
 have q:namesV.contains ([99,108,111,99,107,115]:St)=true:=by kernel_rfl
 simpa using q
theorem handle_in:([112,104,97,110,100,108,101]:St)∈namesV:=by
 have q:namesV.contains ([112,104,97,110,100,108,101]:St)=true:=by kernel_rfl
 simpa using q
theorem nd_ms{ms:List NM}{k:Nat}(hk:k<ms.length):nd (ms.map NM.n) k=(ms[k]'hk).n:=by rw[nd_get (by rw[List.length_map];exact hk),List.getElem_map]
theorem VL.putM{ms:List NM}(h:VL (ms.map NM.n)){k:Nat}(hk:k<ms.length){nm val:St}(hn:nm∈namesV)(hv:val.length≤4096):VL (setN (ms.map NM.n) k (putP (ms[k]'hk).n.props ⟨nm,val⟩)):=by
 have q:=h.put (k:=k) (by rw[List.length_map];exact hk) hn hv
 rw[nd_ms hk] at q
 exact q
theorem VL.woM{ms:List NM}(h:VL (ms.map NM.n)){k:Nat}(hk:k<ms.length)(s:St):VL (setN (ms.map NM.n) k (woP (ms[k]'hk).n.props s)):=by
 have q:=h.fil (k:=k) (by rw[List.length_map];exact hk) (fun x=>x !=s)
 rw[nd_ms hk] at q
 exact q
theorem FinC.li{base b len P3 g m c k:Nat}{w wr w':World}{ms:List NM}(h:LI base b len P3 g m c w wr ms)(hk:k<ms.length)(hf:FinC wr b len g k (ms[k]'hk).n.props w'):∃m2,LI base b len P3 g m c w w' m2:=by
 obtain⟨w1,n,x,c2,rfl,h9,hm,ho⟩:=hf
 exact⟨_,h.put hk hm ho (h.vl.putM hk cells_in (by rw[cellsS_length];simp))⟩
theorem Fin7.li{base b len P3 g m c k:Nat}{w wr w':World}{ms:List NM}{ps:List Prp}(h:LI base b len P3 g m c w wr ms)(ht:Tp wr b len)(hk:k<ms.length)(hf:Fin7 wr g k ps w')(hv:VL (setN (ms.map NM.n) k ps)):∃m2,LI base b len P3 g m c w w' m2:=by
 obtain⟨w1,x,c2,rfl,hg,ho⟩:=hf
 exact⟨_,h.put hk (Mv.of_gr ht hg) ho hv⟩
theorem links_any(b len:Nat)(w:World)(ht:Tp w b len):
  Calls Tryz.prog 12 #[.pointer (some ⟨b,0,none⟩)] w (GivesLT w.heap.size b len w):=by
 have H:=Lib.hid ht
 have hb:=ht.has
 clear ht
 obtain⟨P0,hP0⟩:∃P:Ending→World→Prop,P=GivesLT w.heap.size b len w:=⟨_,rfl⟩
 rw[←hP0]
 have HP0:=Lib.hid hP0
 clear hP0
 go_enter Tryz.func12,Tryz.ntmps12
 go_upto_region 1 with(fail)
 have R2:=Lib.hid (Row.new w #[.slice none 0 0] 31)
 obtain⟨W1,hW1⟩:∃W:World,Hid (W=w.alloc (.cells #[.slice none 0 0] 31)):=⟨_,Lib.hid rfl⟩
 have G1:Hid (Gr w W1):=Lib.hid (by rw[hW1.out];exact(Gr.refl _).alloc _)
 have Z1:Hid (W1.heap.size=w.heap.size+1):=Lib.hid (by rw[hW1.out];simp)
 rw[←hW1.out] at R2 ⊢
 obtain⟨P2,hP2⟩:∃N:Nat,Hid (w.heap.size=N):=⟨_,Lib.hid rfl⟩
 have HP2:=Lib.hid hP2.out
 rw[hP2.out] at R2 HP0 hb Z1 ⊢
 clear hW1 hP2
 have M1:=Lib.hid (Mv.of_gr H.out G1.out)
 have T1:=Lib.hid (H.out.gr G1.out)
 have hbw:b<w.heap.size:=H.out.has
 go_wp2_with fail
 refine(tree_any 8 b len W1 T1.out (by omega)).mono ?_
 rintro e w2 ⟨v,ms,rfl,htr,hvb,hml,hmv⟩
 have hpos:0<ms.length:=by have:=hvb.v.pos;rwa [List.length_map] at this
 obtain⟨g,c,e1,_,hg,_⟩:=owns_cell htr.own hpos
 subst e1
 have S2:=Lib.hid (hmv.row R2.out (by omega))
 have M2:=Lib.hid (M1.out.trans hbw hmv)
 have TR2:=Lib.hid (htr.low (base':=P2) (by have:=Z1.out;omega))
 have VL2:=Lib.hid (VL.of hvb.v)
 have M9:Hid (ms.length≤9∧0<ms.length):=Lib.hid ⟨by omega,hpos⟩
 clear htr hvb hml hmv hg R2 M1 hpos
 obtain⟨m,hm⟩:∃N:Nat,Hid (ms.length=N):=⟨_,Lib.hid rfl⟩
 rw[hm.out] at TR2 M9 ⊢
 go_upto_region 2 with(fail)
 have R3:=Lib.hid (Row.new w2 #[.slice (some ⟨g,0,none⟩) m c] 31)
 obtain⟨W3,hW3⟩:∃W:World,Hid (W=w2.alloc (.cells #[.slice (some ⟨g,0,none⟩) m c] 31)):=⟨_,Lib.hid rfl⟩
 have g3:Gr w2 W3:=by rw[hW3.out];exact(Gr.refl _).alloc _
 rw[←hW3.out] at R3 ⊢
 obtain⟨P3,hP3⟩:∃N:Nat,Hid (w2.heap.size=N):=⟨_,Lib.hid rfl⟩
 have PB:Hid (P2<P3):=Lib.hid (by have:=M2.out.size;have:=S2.out.has;have:=hP3.out;unfold Has at*;omega)
 rw[hP3.out] at R3 ⊢
 have L3:Hid (LI P2 b len P3 g m c w W3 ms):=Lib.hid ⟨TR2.out.gr g3,VL2.out,hm.out,R3.out,S2.out.gr g3,M2.out.gr g3,hb,PB.out,HP2.out.symm⟩
 have T3:=Lib.hid (L3.out.mv.tp H.out)
 clear hW3 hP3 g3 R3 S2 M2 TR2 VL2 hm
 go_wp2_with fail
 refine(nM_any W3 b len 4 T3.out (by omega) (by omega)).mono ?_
 rintro e w4 ⟨c4,rfl,⟨_,_⟩,hm4⟩
 have L4:=Lib.hid (L3.out.move hm4)
 clear hm4 L3 T3
 have x0:=L4.out.r3.cell 0 (by simp)
 simp only[List.getElem_cons_zero] at x0
 have hx:=has_of_cell x0
 go_wp2_with fail
 clear x0 hx
 obtain⟨cir,hcir⟩:∃B,(c4==0)=B:=⟨_,rfl⟩
 rw[hcir]
 clear hcir
 go_loopw [22] (fun i wr=>∃(k:Nat) (ms:List NM),k≤m∧i= .int .i64 k∧LI P2 b len P3 g m c w wr ms) (fun i _=>m-(intOf i).toNat)
 case atStart=>exact⟨0,ms,Nat.zero_le _,rfl,L4.out⟩
 case round=>
  obtain⟨k,ms,hk,rfl,hl⟩:=hrel
  have LL:=Lib.hid hl
  clear hl
  have TP:=Lib.hid (LL.out.mv.tp H.out)
  have m9:=M9.out
  have x0:=LL.out.r3.cell 0 (by simp)
  simp only[List.getElem_cons_zero] at x0
  have hx:=has_of_cell x0
  by_cases hlt:k<m
  ·have hkm:k<ms.length:=by rw[LL.out.ml];exact hlt
   have kn:(k:Int)<(m:Int):=by omega
   have HLT:=Lib.hid hlt
   clear hlt
   go_wp2_with fail
   refine(nM_any wr b len 8 TP.out (by omega) (by omega)).mono ?_
   rintro e w5 ⟨x,rfl,⟨x1,x2⟩,hm5⟩
   have L5:=Lib.hid (LL.out.move hm5)
   have T5:=Lib.hid (L5.out.mv.tp H.out)
   clear hm5 x0 hx
   by_cases hx1:0<x
   ·obtain⟨_,_,c2,hsl,hfr,hfm,hsm,hbb⟩:=L5.out.at hkm
    go_upto_region 8 with(fail)
    refine wp_code_eq (c:=Code.region 8 (regIn 8 Tryz.f12) true) (by kernel_rfl) (lk8 (wr:=w5) (g:=g) (k:=k) (by omega) c2 hfr hsl hbb ?_)
    intro t32 t33 t34 t35 t36 t37 t38 t39 t40 t41 t42 t43 w6 hfin
    obtain⟨m6,h2⟩:=hfin.li L5.out T5.out hkm (L5.out.vl.putM hkm handle_in (by rw[cellsS_length];simp))
    have L6:=Lib.hid h2
    have T6:=Lib.hid (L6.out.mv.tp H.out)
    clear h2 hfin c2 hsl hfr hfm hsm hbb
    unfold lk8A
    go_wp2_with fail
    refine(nM_any w6 b len 3 T6.out (by omega) (by omega)).mono ?_
    rintro e w7 ⟨y,rfl,⟨y1,y2⟩,hm7⟩
    have L7:=Lib.hid (L6.out.move hm7)
    have T7:=Lib.hid (L7.out.mv.tp H.out)
    clear hm7
    by_cases hy:y=0
    ·subst hy
     have hkm7:k<m6.length:=by rw[L7.out.ml];exact HLT.out
     obtain⟨_,_,c2,hsl,hfr,hfm,hsm,hbb⟩:=L7.out.at hkm7
     go_upto_region 10 with(fail)
     refine wp_code_eq (c:=Code.region 10 (regIn 10 Tryz.f12) true) (by kernel_rfl) (lk10 (wr:=w7) (b:=b) (len:=len) (g:=g) (k:=k) T7.out L7.out.gne.2.2.2 c2 hfm hsm hbb ?_)
     intro t47 t48 t49 t50 t51 t52 t53 t54 t55 t56 t57 t58 t59 wx hfin
     obtain⟨m2,h2⟩:=hfin.li L7.out hkm7
     have L8:=Lib.hid h2
     clear h2 hfin c2 hsl hfr hfm hsm hbb
     unfold lk10A
     go_wp2_with fail
     go_roundw
     case rel=>exact⟨k+1,m2,by have:=HLT.out;omega,by go_num,L8.out⟩
     case measure=>simp[intOf];have:=HLT.out;omega
    ·have hyb:(y==0)=false:=by rw[beq_eq_false_iff_ne];exact hy
     clear hy
     go_wp2_with fail
     go_roundw
     case rel=>exact⟨k+1,m6,by have:=HLT.out;omega,by go_num,L7.out⟩
     case measure=>simp[intOf];have:=HLT.out;omega
   ·have hx2:x=0:=by omega
    subst hx2
    clear hx1 x1 x2
    go_wp2_with fail
    refine(nM_any w5 b len 3 T5.out (by omega) (by omega)).mono ?_
    rintro e w7 ⟨y,rfl,⟨y1,y2⟩,hm7⟩
    have L7:=Lib.hid (L5.out.move hm7)
    have T7:=Lib.hid (L7.out.mv.tp H.out)
    clear hm7
    by_cases hy:y=0
    ·subst hy
     have hkm7:k<ms.length:=by rw[L7.out.ml];exact HLT.out
     obtain⟨_,_,c2,hsl,hfr,hfm,hsm,hbb⟩:=L7.out.at hkm7
     go_upto_region 10 with(fail)
     refine wp_code_eq (c:=Code.region 10 (regIn 10 Tryz.f12) true) (by kernel_rfl) (lk10 (wr:=w7) (b:=b) (len:=len) (g:=g) (k:=k) T7.out L7.out.gne.2.2.2 c2 hfm hsm hbb ?_)
     intro t47 t48 t49 t50 t51 t52 t53 t54 t55 t56 t57 t58 t59 wx hfin
     obtain⟨m2,h2⟩:=hfin.li L7.out hkm7
     have L8:=Lib.hid h2
     clear h2 hfin c2 hsl hfr hfm hsm hbb
     unfold lk10A
     go_wp2_with fail
     go_roundw
     case rel=>exact⟨k+1,m2,by have:=HLT.out;omega,by go_num,L8.out⟩
     case measure=>simp[intOf];have:=HLT.out;omega
    ·have hyb:(y==0)=false:=by rw[beq_eq_false_iff_ne];exact hy
     clear hy
     go_wp2_with fail
     go_roundw
     case rel=>exact⟨k+1,ms,by have:=HLT.out;omega,by go_num,L7.out⟩
     case measure=>simp[intOf];have:=HLT.out;omega
  ·obtain rfl:m=k:=by omega
   clear hlt hk
   go_wp2_with fail
   clear x0 hx
   obtain⟨w8,rfl⟩:∃wo,wo=wr:=⟨_,rfl⟩
   go_loopw [64] (fun i wr=>∃(k:Nat) (ms:List NM),k≤m∧i= .int .i64 k∧LI P2 b len P3 g m c w wr ms) (fun i _=>m-(intOf i).toNat)
   case atStart=>exact⟨0,ms,Nat.zero_le _,rfl,LL.out⟩
   case round=>
    clear LL TP
    obtain⟨k,ms,hk,rfl,hl⟩:=hrel
    have LL:=Lib.hid hl
    clear hl
    have TP:=Lib.hid (LL.out.mv.tp H.out)
    have x0:=LL.out.r3.cell 0 (by simp)
    simp only[List.getElem_cons_zero] at x0
    have hx:=has_of_cell x0
    by_cases hlt:k<m
    ·have kn:(k:Int)<(m:Int):=by omega
     have HLT:=Lib.hid hlt
     clear hlt hk
     go_wp2_with fail
     refine(nM_any wr b len 3 TP.out (by omega) (by omega)).mono ?_
     rintro e w5 ⟨y,rfl,⟨y1,y2⟩,hm5⟩
     obtain⟨y,rfl⟩:=Int.eq_ofNat_of_zero_le y1
     have L5:=Lib.hid (LL.out.move hm5)
     have Y2:Hid (y≤2):=Lib.hid (by omega)
     clear hm5 x0 hx y1 y2
     go_wp2_with fail
     obtain⟨w9,rfl⟩:∃wo,wo=wr:=⟨_,rfl⟩
     go_loopw [8,9] (fun v j wr=>∃(val:St) (n:Nat),v= .string (bs val)∧j= .int .i64 (n:Int)∧n≤2∧val.length+n*1100≤2200∧LI P2 b len P3 g m c w wr ms) (fun _ j _=>(intOf j).toNat)
     case atStart=>exact⟨[],y,rfl,rfl,Y2.out,by have:=Y2.out;simp;omega,L5.out⟩
     case round=>
      clear L5 LL TP
      obtain⟨val,n,rfl,rfl,hn,hv,hl⟩:=hrel
      have LL:=Lib.hid hl
      clear hl
      have TP:=Lib.hid (LL.out.mv.tp H.out)
      have VB:Hid (val.length+n*1100≤2200):=Lib.hid hv
      have vb2:val.length≤2200:=by omega
      have x0:=LL.out.r3.cell 0 (by simp)
      simp only[List.getElem_cons_zero] at x0
      have hx:=has_of_cell x0
      clear hv
      by_cases h0:0<n
      ·obtain⟨n,rfl⟩:∃q,n=q+1:=⟨n-1,by omega⟩
       have VB3:Hid (val.length+1100≤2200∧n≤1):=Lib.hid (by have:=VB.out;omega)
       have vb3:val.length≤1100:=by have:=VB3.out;omega
       clear h0
       have m9:=M9.out
       go_wp2_with fail
       refine(nM_any wr b len (m:Int) TP.out (by omega) (by omega)).mono ?_
       rintro e w6 ⟨z,rfl,⟨z1,z2⟩,hm6⟩
       obtain⟨z,rfl⟩:=Int.eq_ofNat_of_zero_le z1
       have L6:=Lib.hid (LL.out.move hm6)
       have ZM:Hid (z<m):=Lib.hid (by omega)
       clear hm6 x0 hx z1 z2
       cases cir with
       |false=>
        by_cases hzk:k≤z
        ·have zb:(k:Int)≤(z:Int):=by omega
         have zb2:decide (k≤z)=true:=by simpa using hzk
         go_wp2_with fail
         go_roundw
         case rel=>exact⟨val,n,rfl,by go_num,by have:=VB3.out;omega,by have:=VB3.out;omega,L6.out⟩
         case measure=>simp[intOf]<;>omega
        ·have zb2:decide (k≤z)=false:=by rw[decide_eq_false_iff_not];omega
         clear hzk
         have T6:=Lib.hid (L6.out.mv.tp H.out)
         have z9:z≤9:=by have:=ZM.out;omega
         go_wp2_with fail
         obtain⟨q,hq⟩:∃q:Nat,Hid (10+z=q):=⟨_,Lib.hid rfl⟩
         rw[show(10:Int)+(z:Int)=(q:Int) by have:=hq.out;omega]
         have QL:Hid (q≤19):=Lib.hid (by have:=hq.out;omega)
         have RB:=Lib.hid (Row.new w6 #[.int .i64 (q:Int)] 3)
         obtain⟨W7,hW7⟩:∃W:World,Hid (W=w6.alloc (.cells #[.int .i64 (q:Int)] 3)):=⟨_,Lib.hid rfl⟩
         have g7:Gr w6 W7:=by rw[hW7.out];exact(Gr.refl _).alloc _
         rw[←hW7.out] at RB ⊢
         obtain⟨PQ,hPQ⟩:∃N:Nat,Hid (w6.heap.size=N):=⟨_,Lib.hid rfl⟩
         rw[hPQ.out] at RB ⊢
         have L7:=Lib.hid (L6.out.gr g7)
         clear hW7 hPQ g7 hq z9
         refine(growCells_any [q] (some ⟨PQ,0,none⟩) 1 W7 (sl_one RB.out (by have:=QL.out;omega)) (by have:=QL.out;simp;omega) (by simp) (by simp)).mono ?_
         rintro e w10 ⟨rfl,hg10⟩
         have L8:=Lib.hid (L7.out.gr hg10)
         obtain⟨cs,hcs⟩:∃cs,cellsS [q]=cs:=⟨_,rfl⟩
         have CL:Hid (cs.length=4):=Lib.hid (by rw[←hcs,cellsS_length];rfl)
         have cl:cs.length≤4:=by have:=CL.out;omega
         rw[hcs]
         clear hcs hg10 L7 RB
         have hzm:z<ms.length:=by rw[L8.out.ml];exact ZM.out
         obtain⟨c0,c1,c2,hsl,_,_,_,hbb⟩:=L8.out.at hzm
         obtain⟨nz,hnz⟩:∃t,ms[z]=t:=⟨_,rfl⟩
         rw[hnz] at c0 c1 c2 hsl hbb
         have SLZ:=Lib.hid hsl
         have NB:=Lib.hid hbb.1
         have x0:=L8.out.r3.cell 0 (by simp)
         simp only[List.getElem_cons_zero] at x0
         have hx:=has_of_cell x0
         have hg0:=has_of_cell c0
         have zn:(z:Int)<(m:Int):=by have:=ZM.out;omega
         clear hsl hbb hnz
         go_wp2_with fail
         refine(rOf_any nz.n nz.a nz.c [35,99,101,108,108,115] w10 SLZ.out (by have:=NB.out;omega)).mono ?_
         intro e w11 hgv
         obtain⟨val1,hval1⟩:∃v,val++cs=v:=⟨_,rfl⟩
         have V1:Hid (val1.length=val.length+4):=Lib.hid (by rw[←hval1,List.length_append,CL.out])
         have v1:val1.length≤1104:=by have:=V1.out;omega
         (try rw[hval1])
         clear hval1 x0 hx hg0 c0 c1 c2 cl
         cases hz:valP nz.n.props [35,99,101,108,108,115] with
         |none=>
          rw[hz] at hgv
          obtain⟨hg11,rfl⟩:=hgv
          have L9:=Lib.hid (L8.out.gr hg11)
          clear hg11 hz
          go_wp2_with fail
          go_roundw
          case rel=>exact⟨val1,n,rfl,by go_num,by have:=VB3.out;omega,by have:=VB3.out;have:=VB.out;have:=V1.out;omega,L9.out⟩
          case measure=>simp[intOf]<;>omega
         |some v=>
          rw[hz] at hgv
          obtain⟨hg11,rfl⟩:=hgv
          have L9:=Lib.hid (L8.out.gr hg11)
          clear hg11 hz
          by_cases h4:v.length=4
          ·obtain⟨va,vb,vc,vd,hvl⟩:∃a b c d,v= [a,b,c,d]:=by
            match v,h4 with
            | [a,b,c,d],_=>exact⟨a,b,c,d,rfl⟩
           subst hvl
           clear h4
           have d256:vd.toNat<256:=vd.toNat_lt
           go_wp2_with fail
           obtain⟨w12,rfl⟩:∃wo,wo=wr:=⟨_,rfl⟩
           go_loopw [8,13] (fun v j wr=>∃(val2:St) (n2:Nat),v= .string (bs val2)∧j= .int .i64 (n2:Int)∧n2≤vd.toNat∧val2.length≤val1.length+4*n2∧LI P2 b len P3 g m c w wr ms) (fun _ j _=>vd.toNat-(intOf j).toNat)
           case atStart=>exact⟨val1,0,rfl,rfl,Nat.zero_le _,by omega,L9.out⟩
           case round=>
            clear L6 L8 L9 LL TP T6 SLZ NB
            obtain⟨val2,n2,rfl,rfl,hn2,hv2,hl⟩:=hrel
            have LL2:=Lib.hid hl
            have TP2:=Lib.hid (LL2.out.mv.tp H.out)
            have V2:Hid (val2.length≤val1.length+4*n2):=Lib.hid hv2
            have v2:val2.length≤2200:=by omega
            clear hl hv2
            by_cases hlt2:n2<vd.toNat
            ·have kn2:(n2:Int)<(vd.toNat:Int):=by omega
             have HLT2:=Lib.hid hlt2
             clear hlt2
             go_wp2_with fail
             refine(nM_any wr b len 50 TP2.out (by omega) (by omega)).mono ?_
             rintro e w13 ⟨r,rfl,⟨r1,r2⟩,hm13⟩
             obtain⟨r,rfl⟩:=Int.eq_ofNat_of_zero_le r1
             have L10:=Lib.hid (LL2.out.move hm13)
             have R49:Hid (r≤49):=Lib.hid (by omega)
             clear hm13 r1 r2
             go_wp2_with fail
             have RB:=Lib.hid (Row.new w13 #[.int .i64 (r:Int)] 3)
             obtain⟨W14,hW14⟩:∃W:World,Hid (W=w13.alloc (.cells #[.int .i64 (r:Int)] 3)):=⟨_,Lib.hid rfl⟩
             have g14:Gr w13 W14:=by rw[hW14.out];exact(Gr.refl _).alloc _
             rw[←hW14.out] at RB ⊢
             obtain⟨PR,hPR⟩:∃N:Nat,Hid (w13.heap.size=N):=⟨_,Lib.hid rfl⟩
             rw[hPR.out] at RB ⊢
             have L11:=Lib.hid (L10.out.gr g14)
             clear hW14 hPR g14
             refine(growCells_any [r] (some ⟨PR,0,none⟩) 1 W14 (sl_one RB.out (by have:=R49.out;omega)) (by have:=R49.out;simp;omega) (by simp) (by simp)).mono ?_
             rintro e w15 ⟨rfl,hg15⟩
             have L12:=Lib.hid (L11.out.gr hg15)
             obtain⟨cr,hcr⟩:∃cs,cellsS [r]=cs:=⟨_,rfl⟩
             have CR:Hid (cr.length=4):=Lib.hid (by rw[←hcr,cellsS_length];rfl)
             have cl:cr.length≤4:=by have:=CR.out;omega
             rw[hcr]
             clear hcr hg15 RB
             go_wp2_with fail
             go_roundw
             case rel=>exact⟨val2++cr,n2+1,rfl,by go_num,by have:=HLT2.out;omega,by have:=V2.out;have:=CR.out;rw[List.length_append];omega,L12.out⟩
             case measure=>simp[intOf];have:=HLT2.out;omega
            ·have kn2:¬(n2:Int)<(vd.toNat:Int):=by omega
             clear hlt2
             go_wp2_with fail
             go_roundw
             case rel=>exact⟨val2,n,rfl,by go_num,by have:=VB3.out;omega,by have:=VB3.out;have:=VB.out;have:=V1.out;have:=V2.out;omega,LL2.out⟩
             case measure=>simp[intOf]<;>omega
          ·have h4b:((v.length:Int)==4)=false:=by rw[beq_eq_false_iff_ne];omega
           clear h4
           go_wp2_with fail
           go_roundw
           case rel=>exact⟨val1,n,rfl,by go_num,by have:=VB3.out;omega,by have:=VB3.out;have:=VB.out;have:=V1.out;omega,L9.out⟩
           case measure=>simp[intOf]<;>omega
       |true=>
        have T6:=Lib.hid (L6.out.mv.tp H.out)
        have z9:z≤9:=by have:=ZM.out;omega
        go_wp2_with fail
        obtain⟨q,hq⟩:∃q:Nat,Hid (10+z=q):=⟨_,Lib.hid rfl⟩
        rw[show(10:Int)+(z:Int)=(q:Int) by have:=hq.out;omega]
        have QL:Hid (q≤19):=Lib.hid (by have:=hq.out;omega)
        have RB:=Lib.hid (Row.new w6 #[.int .i64 (q:Int)] 3)
        obtain⟨W7,hW7⟩:∃W:World,Hid (W=w6.alloc (.cells #[.int .i64 (q:Int)] 3)):=⟨_,Lib.hid rfl⟩
        have g7:Gr w6 W7:=by rw[hW7.out];exact(Gr.refl _).alloc _
        rw[←hW7.out] at RB ⊢
        obtain⟨PQ,hPQ⟩:∃N:Nat,Hid (w6.heap.size=N):=⟨_,Lib.hid rfl⟩
        rw[hPQ.out] at RB ⊢
        have L7:=Lib.hid (L6.out.gr g7)
        clear hW7 hPQ g7 hq z9
        refine(growCells_any [q] (some ⟨PQ,0,none⟩) 1 W7 (sl_one RB.out (by have:=QL.out;omega)) (by have:=QL.out;simp;omega) (by simp) (by simp)).mono ?_
        rintro e w10 ⟨rfl,hg10⟩
        have L8:=Lib.hid (L7.out.gr hg10)
        obtain⟨cs,hcs⟩:∃cs,cellsS [q]=cs:=⟨_,rfl⟩
        have CL:Hid (cs.length=4):=Lib.hid (by rw[←hcs,cellsS_length];rfl)
        have cl:cs.length≤4:=by have:=CL.out;omega
        rw[hcs]
        clear hcs hg10 L7 RB
        have hzm:z<ms.length:=by rw[L8.out.ml];exact ZM.out
        obtain⟨c0,c1,c2,hsl,_,_,_,hbb⟩:=L8.out.at hzm
        obtain⟨nz,hnz⟩:∃t,ms[z]=t:=⟨_,rfl⟩
        rw[hnz] at c0 c1 c2 hsl hbb
        have SLZ:=Lib.hid hsl
        have NB:=Lib.hid hbb.1
        have x0:=L8.out.r3.cell 0 (by simp)
        simp only[List.getElem_cons_zero] at x0
        have hx:=has_of_cell x0
        have hg0:=has_of_cell c0
        have zn:(z:Int)<(m:Int):=by have:=ZM.out;omega
        clear hsl hbb hnz
        go_wp2_with fail
        refine(rOf_any nz.n nz.a nz.c [35,99,101,108,108,115] w10 SLZ.out (by have:=NB.out;omega)).mono ?_
        intro e w11 hgv
        obtain⟨val1,hval1⟩:∃v,val++cs=v:=⟨_,rfl⟩
        have V1:Hid (val1.length=val.length+4):=Lib.hid (by rw[←hval1,List.length_append,CL.out])
        have v1:val1.length≤1104:=by have:=V1.out;omega
        (try rw[hval1])
        clear hval1 x0 hx hg0 c0 c1 c2 cl
        cases hz:valP nz.n.props [35,99,101,108,108,115] with
        |none=>
         rw[hz] at hgv
         obtain⟨hg11,rfl⟩:=hgv
         have L9:=Lib.hid (L8.out.gr hg11)
         clear hg11 hz
         go_wp2_with fail
         go_roundw
         case rel=>exact⟨val1,n,rfl,by go_num,by have:=VB3.out;omega,by have:=VB3.out;have:=VB.out;have:=V1.out;omega,L9.out⟩
         case measure=>simp[intOf]<;>omega
        |some v=>
         rw[hz] at hgv
         obtain⟨hg11,rfl⟩:=hgv
         have L9:=Lib.hid (L8.out.gr hg11)
         clear hg11 hz
         by_cases h4:v.length=4
         ·obtain⟨va,vb,vc,vd,hvl⟩:∃a b c d,v= [a,b,c,d]:=by
           match v,h4 with
           | [a,b,c,d],_=>exact⟨a,b,c,d,rfl⟩
          subst hvl
          clear h4
          have d256:vd.toNat<256:=vd.toNat_lt
          go_wp2_with fail
          obtain⟨w12,rfl⟩:∃wo,wo=wr:=⟨_,rfl⟩
          go_loopw [8,13] (fun v j wr=>∃(val2:St) (n2:Nat),v= .string (bs val2)∧j= .int .i64 (n2:Int)∧n2≤vd.toNat∧val2.length≤val1.length+4*n2∧LI P2 b len P3 g m c w wr ms) (fun _ j _=>vd.toNat-(intOf j).toNat)
          case atStart=>exact⟨val1,0,rfl,rfl,Nat.zero_le _,by omega,L9.out⟩
          case round=>
           clear L6 L8 L9 LL TP T6 SLZ NB
           obtain⟨val2,n2,rfl,rfl,hn2,hv2,hl⟩:=hrel
           have LL2:=Lib.hid hl
           have TP2:=Lib.hid (LL2.out.mv.tp H.out)
           have V2:Hid (val2.length≤val1.length+4*n2):=Lib.hid hv2
           have v2:val2.length≤2200:=by omega
           clear hl hv2
           by_cases hlt2:n2<vd.toNat
           ·have kn2:(n2:Int)<(vd.toNat:Int):=by omega
            have HLT2:=Lib.hid hlt2
            clear hlt2
            go_wp2_with fail
            refine(nM_any wr b len 50 TP2.out (by omega) (by omega)).mono ?_
            rintro e w13 ⟨r,rfl,⟨r1,r2⟩,hm13⟩
            obtain⟨r,rfl⟩:=Int.eq_ofNat_of_zero_le r1
            have L10:=Lib.hid (LL2.out.move hm13)
            have R49:Hid (r≤49):=Lib.hid (by omega)
            clear hm13 r1 r2
            go_wp2_with fail
            have RB:=Lib.hid (Row.new w13 #[.int .i64 (r:Int)] 3)
            obtain⟨W14,hW14⟩:∃W:World,Hid (W=w13.alloc (.cells #[.int .i64 (r:Int)] 3)):=⟨_,Lib.hid rfl⟩
            have g14:Gr w13 W14:=by rw[hW14.out];exact(Gr.refl _).alloc _
            rw[←hW14.out] at RB ⊢
            obtain⟨PR,hPR⟩:∃N:Nat,Hid (w13.heap.size=N):=⟨_,Lib.hid rfl⟩
            rw[hPR.out] at RB ⊢
            have L11:=Lib.hid (L10.out.gr g14)
            clear hW14 hPR g14
            refine(growCells_any [r] (some ⟨PR,0,none⟩) 1 W14 (sl_one RB.out (by have:=R49.out;omega)) (by have:=R49.out;simp;omega) (by simp) (by simp)).mono ?_
            rintro e w15 ⟨rfl,hg15⟩
            have L12:=Lib.hid (L11.out.gr hg15)
            obtain⟨cr,hcr⟩:∃cs,cellsS [r]=cs:=⟨_,rfl⟩
            have CR:Hid (cr.length=4):=Lib.hid (by rw[←hcr,cellsS_length];rfl)
            have cl:cr.length≤4:=by have:=CR.out;omega
            rw[hcr]
            clear hcr hg15 RB
            go_wp2_with fail
            go_roundw
            case rel=>exact⟨val2++cr,n2+1,rfl,by go_num,by have:=HLT2.out;omega,by have:=V2.out;have:=CR.out;rw[List.length_append];omega,L12.out⟩
            case measure=>simp[intOf];have:=HLT2.out;omega
           ·have kn2:¬(n2:Int)<(vd.toNat:Int):=by omega
            clear hlt2
            go_wp2_with fail
            go_roundw
            case rel=>exact⟨val2,n,rfl,by go_num,by have:=VB3.out;omega,by have:=VB3.out;have:=VB.out;have:=V1.out;have:=V2.out;omega,LL2.out⟩
            case measure=>simp[intOf]<;>omega
         ·have h4b:((v.length:Int)==4)=false:=by rw[beq_eq_false_iff_ne];omega
          clear h4
          go_wp2_with fail
          go_roundw
          case rel=>exact⟨val1,n,rfl,by go_num,by have:=VB3.out;omega,by have:=VB3.out;have:=VB.out;have:=V1.out;omega,L9.out⟩
          case measure=>simp[intOf]<;>omega
      ·obtain rfl:n=0:=by omega
       clear h0
       have hkm:k<ms.length:=by rw[LL.out.ml];exact HLT.out
       by_cases hval:val= []
       ·subst hval
        go_upto_region 30 with(fail)
        clear x0 hx
        obtain⟨_,_,c2,hsl,hfr,hfm,hsm,hbb⟩:=LL.out.at hkm
        refine wp_code_eq (c:=Code.region 30 (regIn 30 Tryz.f12) true) (by kernel_rfl) (lk30 (wr:=wr) (g:=g) (k:=k) (PX:=P3) (n:=m) (vc:=c) LL.out.r3 HLT.out c2 hfr hsl hbb ?_)
        intro t134 t135 t136 t137 t138 t139 t140 t141 t142 t143 t144 t145 w6 hfin
        obtain⟨m6,h2⟩:=hfin.li LL.out TP.out hkm (LL.out.vl.woM hkm _)
        have L6:=Lib.hid h2
        clear h2 hfin c2 hsl hfr hfm hsm hbb
        unfold lk30A
        go_wp2_with fail
        go_roundw
        case rel=>exact⟨k+1,m6,by have:=HLT.out;omega,by go_num,L6.out⟩
        case measure=>simp[intOf];have:=HLT.out;omega
       ·have hb1:(val== [])=false:=by rw[beq_eq_false_iff_ne];exact hval
        have hb2:(val != [])=true:=by simp[bne,hb1]
        clear hval
        go_upto_region 29 with(fail)
        clear x0 hx
        obtain⟨_,_,c2,hsl,hfr,hfm,hsm,hbb⟩:=LL.out.at hkm
        refine wp_code_eq (c:=Code.region 29 (regIn 29 Tryz.f12) true) (by kernel_rfl) (lk29 (wr:=wr) (g:=g) (k:=k) (PX:=P3) (n:=m) (vc:=c) (val:=val) LL.out.r3 HLT.out c2 hfr hsl hbb ?_)
        intro t121 t122 t123 t124 t125 t126 t127 t128 t129 t130 t131 t132 t133 w6 hfin
        obtain⟨m6,h2⟩:=hfin.li LL.out TP.out hkm (LL.out.vl.putM hkm clocks_in (by have:=VB.out;omega))
        have L6:=Lib.hid h2
        clear h2 hfin c2 hsl hfr hfm hsm hbb
        unfold lk29A
        go_wp2_with fail
        go_roundw
        case rel=>exact⟨k+1,m6,by have:=HLT.out;omega,by go_num,L6.out⟩
        case measure=>simp[intOf];have:=HLT.out;omega
    ·obtain rfl:m=k:=by omega
     clear hlt hk
     have m9:=M9.out.1
     have z0:=LL.out.r2.cell 0 (by simp)
     have zf:=LL.out.r2.free 0
     have hz:=has_of_cell z0
     have PB2:=Lib.hid LL.out.bb
     go_wp2_with fail
     have RF:=Lib.hid (LL.out.r2.set 0 (.slice (some ⟨g,0,none⟩) m c))
     have TF:=Lib.hid (LL.out.tr.box (o:=0) (u:= .slice (some ⟨g,0,none⟩) m c) LL.out.r2.ty (by decide) (LL.out.tr.ne_ty LL.out.r2.ty (by decide)))
     have GF:Hid (Mv b len w (wr.setCell ⟨P2,0,none⟩ (.slice (some ⟨g,0,none⟩) m c))):=Lib.hid (LL.out.mv.setc (by have:=PB2.out;omega))
     obtain⟨W3,hW3⟩:∃W:World,Hid (W=wr.setCell ⟨P2,0,none⟩ (.slice (some ⟨g,0,none⟩) m c)):=⟨_,Lib.hid rfl⟩
     rw[←hW3.out] at RF TF GF ⊢
     have e0:W3.cell? ⟨P2,0,none⟩=some (.slice (some ⟨g,0,none⟩) m c):=RF.out.cell 0 (by simp)
     clear hW3 x0 hx z0 zf hz
     refine bodyPost_ret (v:= .agg #[.slice (some ⟨g,0,none⟩) m c]) (by simp[results,Tryz.results12,e0,go_sem]) rfl ?_
     rw[HP0.out]
     exact⟨_,ms,rfl,TF.out,LL.out.vl,by rw[LL.out.ml];exact m9,GF.out⟩
theorem lk_at{w:World}{base n c:Nat}{a:Option Addr}{lts:List LT}(h:w.ownsRow base 40 5 (.slice a n c) lts.length (encLks lts)){j:Nat}(hj:j<lts.length):
  ∃g,a=some ⟨g,0,none⟩∧n=lts.length∧w.cell? ⟨g,j*5,none⟩=some (.int .i64 lts[j].l.node)∧w.cell? ⟨g,j*5+1,none⟩=some (.int .i64 lts[j].l.prov)∧w.cell? ⟨g,j*5+2,none⟩=some (.string (bs lts[j].l.prop))∧w.cell? ⟨g,j*5+3,none⟩=some (.int .i64 lts[j].l.idx)∧w.cell? ⟨g,j*5+4,none⟩=some (.slice lts[j].a lts[j].l.args.length lts[j].c):=by
 obtain⟨g,cap,e1,_,_,hc⟩:=owns_cell h (by omega)
 cases e1
 have hf:=fun i (hi:i<5)=>flat_at encLk 5 (fun _=>rfl) lts j i hj hi
 have h2:∀i,i<5→w.cell? ⟨g,j*5+i,none⟩=(encLk lts[j])[i]?:=fun i hi=>by rw[hc (j*5+i) (by omega)];exact hf i hi
 exact⟨g,rfl,rfl,by have:=h2 0 (by omega);exact this,by have:=h2 1 (by omega);exact this,by have:=h2 2 (by omega);exact this,by have:=h2 3 (by omega);exact this,by have:=h2 4 (by omega);exact this⟩
theorem nm_at{w:World}{base n c:Nat}{a:Option Addr}{zs:List Int}(h:w.ownsRow base 3 1 (.slice a n c) zs.length (nums zs)){j:Nat}(hj:j<zs.length):∃g,a=some ⟨g,0,none⟩∧w.cell? ⟨g,j,none⟩=some (.int .i64 zs[j]):=by
 obtain⟨g,cap,e1,_,_,hc⟩:=owns_cell h (by omega)
 cases e1
 refine⟨g,rfl,?_⟩
 rw[hc j (by omega)]
 simp[nums,hj]
theorem graph_of{ts:Tr}{pn cn:St}{ls:List Lnk}(h:allT ts pn cn ts.length= .ok ls):graphT ts pn cn= .ok ((rawG ts.length ls).map normG)∧((rawG ts.length ls).map normG).length=ts.length∧EdgB ((rawG ts.length ls).map normG)∧
  ∀(i:Nat) (y:Int),y∈((rawG ts.length ls).map normG).getD i []↔∃l∈ls,l.node=i∧l.prov=y:=by
 have hm:=allT_mem _ _ h
 obtain⟨g1,g2⟩:=graph_mem (n:=ts.length) (ls:=ls) (fun l hl=>(hm l hl).1)
 refine⟨by unfold graphT;rw[h],g1,fun i y hy=>?_,g2⟩
 obtain⟨l,hl,_,e⟩:=(g2 i y).1 hy
 obtain⟨k,hk,hk2⟩:=(hm l hl).2
 exact⟨k,by rw[←e,hk],by rw[g1];exact hk2⟩
def putI:List Int→Int→List Int
 | [],x=> [x]
 |a::l,x=>if a<x then a::putI l x else if a=x then a::l else x::a::l
theorem mem_putI{x y:Int}:∀{l:List Int},y∈putI l x↔y=x∨y∈l
 | []=>by simp[putI]
 |a::l=>by
  rw[putI]
  split
  ·rw[List.mem_cons,mem_putI,List.mem_cons];constructor<;>(intro h;rcases h with h|h|h<;>simp[h])
  ·split
   ·rename_i e;subst e;rw[List.mem_cons];constructor
    ·exact fun h=> .inr h
    ·rintro(h|h);exact .inl h;exact h
   ·rw[List.mem_cons]
theorem putI_asc{x:Int}:∀{l:List Int},l.Pairwise (·< ·)→(putI l x).Pairwise (·< ·)
 | [],_=>by simp[putI]
 |a::l,h=>by
  rw[putI]
  obtain⟨h1,h2⟩:=List.pairwise_cons.1 h
  split
  ·refine List.pairwise_cons.2 ⟨fun y hy=>?_,putI_asc h2⟩
   rcases mem_putI.1 hy with q|q
   ·rw[q];assumption
   ·exact h1 y q
  ·split
   ·exact h
   ·refine List.pairwise_cons.2 ⟨fun y hy=>?_,h⟩
    rcases List.mem_cons.1 hy with q|q
    ·rw[q];omega
    ·have:=h1 y q;omega
theorem putI_len(l:List Int)(x:Int):(putI l x).length≤l.length+1:=by
 induction l with
 |nil=>simp[putI]
 |cons a l ih=>
  rw[putI]
  split
  ·simp only[List.length_cons];omega
  ·split
   ·simp only[List.length_cons];omega
   ·simp only[List.length_cons];omega
theorem putI_at{l:List Int}{x:Int}:∀{k:Nat},k≤l.length→(∀j (hj:j<l.length),j<k→l[j]<x)→(∀h:k<l.length,¬l[k]<x)→putI l x=if h:k<l.length then(if l[k]=x then l else l.take k++x::l.drop k) else l++ [x]:=by
 induction l with
 |nil=>intro k hk _ _;simp[putI]
 |cons a l ih=>
  intro k hk h1 h2
  rw[putI]
  cases k with
  |zero=>
   have:=h2 (by simp)
   simp only[List.getElem_cons_zero] at this
   rw[if_neg this]
   simp
  |succ k=>
   have q:=h1 0 (by simp) (by omega)
   simp only[List.getElem_cons_zero] at q
   rw[if_pos q,ih (k:=k) (by simpa using hk) (fun j hj hjk=>by have:=h1 (j+1) (by simpa using hj) (by omega);simpa using this) (fun h=>by have:=h2 (by simpa using h);simpa using this)]
   by_cases hl:k<l.length
   ·rw[dif_pos hl,dif_pos (by simpa using hl)]
    by_cases e:l[k]=x
    ·rw[if_pos e,if_pos (by simpa using e)]
    ·rw[if_neg e,if_neg (by simpa using e)];simp
   ·rw[dif_neg hl,dif_neg (by simpa using hl)];simp
def putsI(zs:List Int):List Int:=zs.foldl putI []
theorem foldl_putI(zs:List Int):∀(o:List Int),o.Pairwise (·< ·)→(zs.foldl putI o).Pairwise (·< ·)∧∀y,y∈zs.foldl putI o↔y∈o∨y∈zs:=by
 induction zs with
 |nil=>intro o h;exact⟨h,fun y=>by simp⟩
 |cons z zs ih=>
  intro o h
  obtain⟨h1,h2⟩:=ih (putI o z) (putI_asc h)
  refine⟨h1,fun y=>?_⟩
  rw[List.foldl_cons,h2 y,mem_putI,List.mem_cons]
  constructor
  ·rintro((q|q)|q)
   ·exact .inr (.inl q)
   ·exact .inl q
   ·exact .inr (.inr q)
  ·rintro(q|q|q)
   ·exact .inl (.inr q)
   ·exact .inl (.inl q)
   ·exact .inr q
theorem putsI_asc(zs:List Int):(putsI zs).Pairwise (·< ·):=(foldl_putI zs [] List.Pairwise.nil).1
theorem mem_putsI{zs:List Int}{y:Int}:y∈putsI zs↔y∈zs:=by
 have:=(foldl_putI zs [] List.Pairwise.nil).2 y
 simpa [putsI] using this
theorem putsI_snoc(zs:List Int)(z:Int):putsI (zs++ [z])=putI (putsI zs) z:=by unfold putsI;rw[List.foldl_append];rfl
theorem asc_extI:∀{l m:List Int},l.Pairwise (·< ·)→m.Pairwise (·< ·)→(∀i,i∈l↔i∈m)→l=m
 | [],[],_,_,_=>rfl
 | [],b::m,_,_,h=>absurd ((h b).2 (by simp)) (by simp)
 |a::l,[],_,_,h=>absurd ((h a).1 (by simp)) (by simp)
 |a::l,b::m,hl,hm,h=>by
  obtain⟨l1,l2⟩:=List.pairwise_cons.1 hl
  obtain⟨m1,m2⟩:=List.pairwise_cons.1 hm
  have e:a=b:=by
   rcases List.mem_cons.1 ((h a).1 (by simp)) with q|q
   ·exact q
   ·rcases List.mem_cons.1 ((h b).2 (by simp)) with q2|q2
    ·exact q2.symm
    ·have:=m1 a q;have:=l1 b q2;omega
  subst e
  refine congrArg (a:: ·) (asc_extI l2 m2 (fun i=>?_))
  constructor
  ·intro hi
   rcases List.mem_cons.1 ((h i).1 (List.mem_cons_of_mem _ hi)) with q|q
   ·have:=l1 i hi;omega
   ·exact q
  ·intro hi
   rcases List.mem_cons.1 ((h i).2 (List.mem_cons_of_mem _ hi)) with q|q
   ·have:=m1 i hi;omega
   ·exact q
theorem upTo_asc{d:Array Int}(h:∀i j,i≤j→j<d.size→d[i]!≤d[j]!):∀m,m≤d.size→(Lib.compactUpTo d m).Pairwise (·< ·)∧∀y∈Lib.compactUpTo d m,0<m∧y≤d[m-1]!
 |0,_=>⟨by simp[Lib.compactUpTo],fun y hy=>by simp[Lib.compactUpTo] at hy⟩
 |m+1,hm=>by
  obtain⟨h1,h2⟩:=upTo_asc h m (by omega)
  rw[Lib.compactUpTo_succ]
  have le:=fun(hm0:0<m)=>h (m-1) m (by omega) (by omega)
  by_cases hk:Lib.keeps d m=true
  ·rw[if_pos hk]
   refine⟨List.pairwise_append.2 ⟨h1,List.pairwise_singleton ..,fun a ha b hb=>?_⟩,fun y hy=>⟨by omega,?_⟩⟩
   ·rw[List.mem_singleton.1 hb]
    obtain⟨m0,a1⟩:=h2 a ha
    have:=le m0
    unfold Lib.keeps at hk
    rw[decide_eq_true_iff] at hk
    rcases hk with q|q
    ·omega
    ·have:d[m-1]!≠d[m]!:=fun e=>q e.symm
     omega
   ·show y≤d[m]!
    rcases List.mem_append.1 hy with q|q
    ·obtain⟨m0,a1⟩:=h2 y q
     have:=le m0
     omega
    ·rw[List.mem_singleton.1 q];omega
  ·rw[if_neg hk,List.append_nil]
   refine⟨h1,fun y hy=>⟨by omega,?_⟩⟩
   obtain⟨m0,a1⟩:=h2 y hy
   have:=le m0
   show y≤d[m]!
   omega
theorem compact_asc{zs:List Int}(h:zs.Pairwise (·≤ ·)):(Lib.compact zs).Pairwise (·< ·):=by
 unfold Lib.compact
 refine(upTo_asc (d:=zs.toArray) (fun i j hij hj=>?_) zs.length (by simp)).1
 have hj2:j<zs.length:=by simpa using hj
 rw[getElem!_pos zs.toArray j (by simpa using hj2),getElem!_pos zs.toArray i (by simp;omega)]
 simp only[List.getElem_toArray]
 by_cases e:i=j
 ·subst e;omega
 ·exact List.pairwise_iff_getElem.1 h i j (by omega) hj2 (by omega)
theorem compact_puts{zs:List Int}(h:zs.Pairwise (·≤ ·)):Lib.compact zs=putsI zs:=
 asc_extI (compact_asc h) (putsI_asc zs) (fun i=>by rw[mem_compactE,mem_putsI])
theorem normG_puts(g:List Int):normG g=putsI g:=by
 unfold normG
 refine asc_extI (compact_asc ?_) (putsI_asc g) (fun i=>by rw[mem_compactE,mem_putsI];exact(List.mergeSort_perm g _).mem_iff)
 have:=List.pairwise_mergeSort (le:=fun(x y:Int)=>decide (x≤y)) (fun a b c h1 h2=>by simp at h1 h2 ⊢;omega) (fun a b=>by simp;omega) g
 exact this.imp (fun h=>by simpa using h)
def nextR(ls:List Lnk)(i:Int):List Int:=putsI ((ls.filter (fun x=>x.node==i)).map Lnk.prov)
theorem nextR_mem{ls:List Lnk}{i y:Int}:y∈nextR ls i↔∃x∈ls,x.node=i∧x.prov=y:=by
 unfold nextR
 rw[mem_putsI,List.mem_map]
 constructor
 ·rintro⟨x,hx,e⟩
  obtain⟨h1,h2⟩:=List.mem_filter.1 hx
  exact⟨x,h1,by simpa using h2,e⟩
 ·rintro⟨x,hx,e1,e2⟩
  exact⟨x,List.mem_filter.2 ⟨hx,by simpa using e1⟩,e2⟩
theorem graph_next{ts:Tr}{pn cn:St}{ls:List Lnk}(h:allT ts pn cn ts.length= .ok ls){i:Nat}(hi:i<ts.length):((rawG ts.length ls).map normG).getD i []=nextR ls i:=by
 obtain⟨_,hlen,_,hm⟩:=graph_of h
 refine asc_extI ?_ (putsI_asc _) (fun y=>by rw[hm i y,←nextR_mem])
 rw[List.length_map,rawG_len] at hlen
 rw[List.getD_eq_getElem?_getD,List.getElem?_map,List.getElem?_eq_getElem (by rw[rawG_len];exact hi),Option.map_some,Option.getD_some,normG_puts]
 exact putsI_asc _
theorem allT_asc{ts:Tr}{pn cn:St}:∀(K:Nat) (ls:List Lnk),allT ts pn cn K= .ok ls→(ls.map Lnk.node).Pairwise (·≤ ·)
 |0,ls,h=>by rw[allT] at h;injection h with h;subst h;exact List.Pairwise.nil
 |K+1,ls,h=>by
  rw[allT] at h
  cases ha:allT ts pn cn K with
  |error e=>rw[ha] at h;cases h
  |ok out=>
   rw[ha] at h
   dsimp only at h
   cases ho:ofT ts K pn cn with
   |error e=>rw[ho] at h;cases h
   |ok l2=>
    rw[ho] at h
    injection h with h
    subst h
    rw[List.map_append]
    have h2:=ofT_mem ho
    refine List.pairwise_append.2 ⟨allT_asc K out ha,?_,fun a hx b hy=>?_⟩
    ·rw[List.pairwise_map]
     rw[List.pairwise_iff_getElem]
     intro i j hi hj _
     rw[(h2 _ (List.getElem_mem hi)).1,(h2 _ (List.getElem_mem hj)).1]
     exact Int.le_refl _
    ·obtain⟨x,hx2,rfl⟩:=List.mem_map.1 hx
     obtain⟨y,hy2,rfl⟩:=List.mem_map.1 hy
     obtain⟨⟨n,e,hn⟩,_⟩:=allT_mem K out ha x hx2
     rw[e,(h2 y hy2).1]
     omega
def consR(ls:List Lnk)(p:Int):List Int:=putsI ((ls.filter (fun x=>x.prov==p)).map Lnk.node)
theorem cons_same{ts:Tr}{pn cn:St}{K:Nat}{ls:List Lnk}(h:allT ts pn cn K= .ok ls)(p:Int):consL p ls=consR ls p:=by
 unfold consL consR
 refine compact_puts ?_
 have:=allT_asc K ls h
 exact this.sublist ((List.filter_sublist).map _)
def readyR(ls:List Lnk)(out:List Int)(i:Nat):Bool:=!(out.contains (i:Int))&&(nextR ls i).all (fun y=>out.contains y)
def foundR(ls:List Lnk)(n:Nat)(out:List Int):Option Nat:=(List.range n).find? (readyR ls out)
def rOrderF(ls:List Lnk)(n:Nat):Nat→List Int→Except Int (List Int)
 |0,out=> .ok out
 |f+1,out=>match foundR ls n out with
  |none=> .error 10
  |some i=>rOrderF ls n f (out++ [(i:Int)])
theorem find_congr{α:Type}{p q:α→Bool}:∀{l:List α},(∀a∈l,p a=q a)→l.find? p=l.find? q
 | [],_=>rfl
 |a::l,h=>by
  rw[List.find?_cons,List.find?_cons,h a (List.mem_cons_self ..),find_congr (fun b hb=>h b (List.mem_cons_of_mem _ hb))]
theorem order_same{ls:List Lnk}{g:List (List Int)}(hg:∀i,i<g.length→g.getD i []=nextR ls i)(hb:∀i,∀y∈g.getD i [],∃j:Nat,y=j∧j<g.length):∀(f:Nat) (done:List Bool) (out:List Int),done.length=g.length→(∀i,i<g.length→done.getD i false=out.contains (i:Int))→orderF g f done out=rOrderF ls g.length f out
 |0,done,out,_,_=>rfl
 |f+1,done,out,hl,hd=>by
  rw[orderF,rOrderF]
  have e:nextI g done=foundR ls g.length out:=by
   unfold nextI foundR
   refine find_congr (fun i hi=>?_)
   have hi:=List.mem_range.1 hi
   unfold readyI readyR
   rw[hd i hi,hg i hi]
   congr 1
   rw[Bool.eq_iff_iff,Bool.not_eq_true',List.any_eq_false,List.all_eq_true]
   constructor
   ·intro h y hy
    have q:=h y hy
    obtain⟨j,rfl,hj⟩:=hb i y (by rw[hg i hi];exact hy)
    unfold notDone at q
    rw[Int.toNat_natCast,hd j hj] at q
    simpa using q
   ·intro h y hy
    have q:=h y hy
    obtain⟨j,rfl,hj⟩:=hb i y (by rw[hg i hi];exact hy)
    unfold notDone
    rw[Int.toNat_natCast,hd j hj,q]
    simp
  rw[e]
  cases hf:foundR ls g.length out with
  |none=>rfl
  |some i=>
   have hi:i<g.length:=List.mem_range.1 (List.mem_of_find?_eq_some hf)
   refine order_same hg hb f (done.set i true) (out++ [(i:Int)]) (by rw[List.length_set];exact hl) (fun j hj=>?_)
   by_cases e:j=i
   ·subst e
    rw[List.getD_eq_getElem?_getD,List.getElem?_set_self (by rw[hl];exact hj),Option.getD_some]
    symm
    rw[List.contains_iff_mem]
    simp
   ·rw[List.getD_eq_getElem?_getD,List.getElem?_set_ne (fun q=>e q.symm),←List.getD_eq_getElem?_getD,hd j hj]
    rw[Bool.eq_iff_iff,List.contains_iff_mem,List.contains_iff_mem,List.mem_append,List.mem_singleton]
    constructor
    ·exact fun h=> .inl h
    ·rintro(h|h)
     ·exact h
     ·omega
def orderR(ts:Tr)(pn cn:St):Except Int (List Int):=
 match allT ts pn cn ts.length with
 | .error e=> .error e
 | .ok ls=>rOrderF ls ts.length ts.length []
theorem orderT_R(ts:Tr)(pn cn:St):orderT ts pn cn=orderR ts pn cn:=by
 unfold orderT orderR
 cases h:allT ts pn cn ts.length with
 |error e=>rw[show graphT ts pn cn= .error e by unfold graphT;rw[h]]
 |ok ls=>
  obtain⟨h1,h2,h3,_⟩:=graph_of h
  rw[h1]
  dsimp only
  have q:=order_same (ls:=ls) (g:=(rawG ts.length ls).map normG) (fun i hi=>graph_next h (by rw[←h2];exact hi)) h3 ((rawG ts.length ls).map normG).length (List.replicate ((rawG ts.length ls).map normG).length false) [] (by simp) (fun i hi=>by
   rw[List.getD_eq_getElem?_getD,List.getElem?_replicate,if_pos hi];rfl)
  rw[q,h2]
def Dp(gs:List (List Int))(tt x:Nat):Nat:=if x=tt then 0 else if x<tt∨(distT gs tt).getD x 0=0 then gs.length+1 else(distT gs tt).getD x 0
theorem Dp_self(gs:List (List Int))(tt:Nat):Dp gs tt tt=0:=by unfold Dp;rw[if_pos rfl]
theorem Dp_le(gs:List (List Int))(tt x:Nat):Dp gs tt x≤gs.length+1:=by
 unfold Dp
 have:=(distT_fin gs tt).ok.max x
 split
 ·omega
 ·split<;>omega
theorem Dp_zero{gs:List (List Int)}{tt x:Nat}(h:Dp gs tt x=0):x=tt:=by
 unfold Dp at h
 split at h
 ·assumption
 ·split at h
  ·omega
  ·rename_i q;exact absurd (.inr h) q
theorem Dp_big{gs:List (List Int)}{tt x:Nat}(h:tt<x)(h0:(distT gs tt).getD x 0≠0):Dp gs tt x=(distT gs tt).getD x 0:=by
 unfold Dp
 rw[if_neg (by omega),if_neg (by omega)]
theorem Dp_pos{gs:List (List Int)}{tt x:Nat}(h:Dp gs tt x≤gs.length)(hne:x≠tt):tt<x∧(distT gs tt).getD x 0≠0∧Dp gs tt x=(distT gs tt).getD x 0:=by
 unfold Dp at h ⊢
 rw[if_neg hne] at h ⊢
 split at h
 ·omega
 ·rename_i q
  rw[if_neg q]
  omega
theorem Dp_edge{gs:List (List Int)}{tt x y:Nat}(hx:tt<x)(hxl:x<gs.length)(hy:(y:Int)∈gs.getD x []):Dp gs tt x≤Dp gs tt y+1:=by
 have fin:=distT_fin gs tt
 have q:=fin.fix x (by omega) hxl y hy
 have hm:=fin.ok.max x
 by_cases e:y=tt
 ·subst e
  have:stepV y (distT gs y) ((y:Nat):Int)=1:=by unfold stepV;rw[if_pos rfl]
  rw[this] at q
  have h0:(distT gs y).getD x 0≠0:=fun e=>q ⟨by omega,.inl e⟩
  have h1:¬1<(distT gs y).getD x 0:=fun e=>q ⟨by omega,.inr e⟩
  rw[Dp_big hx h0]
  omega
 ·by_cases hd:Dp gs tt y≤gs.length
  ·obtain⟨y1,y2,y3⟩:=Dp_pos hd e
   have:stepV tt (distT gs tt) ((y:Nat):Int)=(distT gs tt).getD y 0+1:=by
    unfold stepV
    rw[if_neg (by omega),Int.toNat_natCast,if_pos ⟨by omega,by omega⟩]
   rw[this] at q
   have h0:(distT gs tt).getD x 0≠0:=fun e=>q ⟨by omega,.inl e⟩
   have h1:¬(distT gs tt).getD y 0+1<(distT gs tt).getD x 0:=fun e=>q ⟨by omega,.inr e⟩
   rw[Dp_big hx h0]
   omega
  ·have:=Dp_le gs tt x
   omega
theorem Dp_sup{gs:List (List Int)}{tt x:Nat}(hB:EdgB gs)(hne:x≠tt)(hxl:x<gs.length)(h:Dp gs tt x≤gs.length):∃y:Nat,(y:Int)∈gs.getD x []∧y<gs.length∧Dp gs tt y+1=Dp gs tt x:=by
 obtain⟨x1,x2,x3⟩:=Dp_pos h hne
 rw[x3]
 by_cases e:(distT gs tt).getD x 0=1
 ·have q:=(distT_one gs tt).2 x e
  obtain⟨j,hj,hjl⟩:=hB x _ q
  have:j=tt:=by omega
  subst this
  exact⟨j,q,hjl,by rw[Dp_self,e]⟩
 ·obtain⟨y,y1,y2,y3⟩:=(distT_fin gs tt).next (by omega) hxl (by omega:1<(distT gs tt).getD x 0)
  obtain⟨j,hj,hjl⟩:=hB x _ y1
  have:j=y:=by omega
  subst this
  refine⟨j,y1,hjl,?_⟩
  rw[Dp_big y2 (by omega)]
  exact y3
/-! The reference's rounds. -/
def relR(tt:Nat)(d:List Nat)(x:Lnk):List Nat:=if(tt:Int)<x.node∧d.getD x.prov.toNat 0+1<d.getD x.node.toNat 0 then d.set x.node.toNat (d.getD x.prov.toNat 0+1) else d
def roundR(ls:List Lnk)(tt:Nat)(d:List Nat):List Nat:=ls.foldl (relR tt) d
def roundsR(ls:List Lnk)(tt:Nat):Nat→List Nat→List Nat
 |0,d=>d
 |r+1,d=>roundR ls tt (roundsR ls tt r d)
def dR(ls:List Lnk)(n tt:Nat):List Nat:=roundsR ls tt n ((List.replicate n (n+1)).set tt 0)
structure RInv(gs:List (List Int))(tt r:Nat)(d:List Nat):Prop where
 len:d.length=gs.length
 lo:∀x,x<gs.length→Dp gs tt x≤d.getD x 0
 hi:∀x,x<gs.length→d.getD x 0≤gs.length+1
 up:∀x,x<gs.length→Dp gs tt x≤r→d.getD x 0≤Dp gs tt x
theorem relR_inv{gs:List (List Int)}{tt r:Nat}{d:List Nat}(h:RInv gs tt r d){x:Lnk}{i j:Nat}(hi:x.node=i)(hil:i<gs.length)(hj:x.prov=j)(hjl:j<gs.length)(he:(j:Int)∈gs.getD i []):
  RInv gs tt r (relR tt d x)∧(∀z,(relR tt d x).getD z 0≤d.getD z 0)∧(tt<i→(relR tt d x).getD i 0≤d.getD j 0+1):=by
 unfold relR
 rw[hi,hj,Int.toNat_natCast,Int.toNat_natCast]
 split
 ·rename_i q
  have hlen:i<d.length:=by rw[h.len];exact hil
  have hself:(d.set i (d.getD j 0+1)).getD i 0=d.getD j 0+1:=getD_set_self' hlen
  have hoth:∀z,i≠z→(d.set i (d.getD j 0+1)).getD z 0=d.getD z 0:=fun z hz=>getD_set_other hz
  have hle:∀z,(d.set i (d.getD j 0+1)).getD z 0≤d.getD z 0:=fun z=>by
   by_cases e:i=z
   ·subst e;rw[hself];omega
   ·rw[hoth z e];exact Nat.le_refl _
  refine⟨⟨by rw[List.length_set];exact h.len,fun z hz=>?_,fun z hz=>Nat.le_trans (hle z) (h.hi z hz),fun z hz hr=>Nat.le_trans (hle z) (h.up z hz hr)⟩,hle,fun _=>by rw[hself];exact Nat.le_refl _⟩
  by_cases e:i=z
  ·subst e
   rw[hself]
   have:=Dp_edge (gs:=gs) (tt:=tt) (by omega) hil he
   have:=h.lo j hjl
   omega
  ·rw[hoth z e];exact h.lo z hz
 ·rename_i q
  refine⟨h,fun z=>Nat.le_refl _,fun ht=>?_⟩
  have:¬d.getD j 0+1<d.getD i 0:=fun e=>q ⟨by omega,e⟩
  omega
theorem foldR_inv{gs:List (List Int)}{tt r:Nat}:∀(ls:List Lnk) (d:List Nat),RInv gs tt r d→(∀x∈ls,∃i j:Nat,x.node=i∧i<gs.length∧x.prov=j∧j<gs.length∧(j:Int)∈gs.getD i [])→
  RInv gs tt r (ls.foldl (relR tt) d)∧(∀z,(ls.foldl (relR tt) d).getD z 0≤d.getD z 0)∧∀x∈ls,∀i j:Nat,x.node=i→x.prov=j→tt<i→Dp gs tt j≤r→(ls.foldl (relR tt) d).getD i 0≤Dp gs tt j+1
 | [],d,h,_=>⟨h,fun z=>Nat.le_refl _,fun x hx=>by cases hx⟩
 |x::ls,d,h,hl=>by
  obtain⟨i,j,e1,e2,e3,e4,e5⟩:=hl x (List.mem_cons_self ..)
  obtain⟨h1,h2,h3⟩:=relR_inv h e1 e2 e3 e4 e5
  obtain⟨k1,k2,k3⟩:=foldR_inv ls _ h1 (fun y hy=>hl y (List.mem_cons_of_mem _ hy))
  refine⟨k1,fun z=>Nat.le_trans (k2 z) (h2 z),fun y hy i' j' f1 f2 ht hr=>?_⟩
  rcases List.mem_cons.1 hy with rfl|q
  ·have a1:i'=i:=by omega
   have a2:j'=j:=by omega
   subst a1 a2
   have:=h3 ht
   have:=k2 i'
   have:=h.up j' e4 hr
   rw[List.foldl_cons]
   omega
  ·exact k3 y q i' j' f1 f2 ht hr
theorem roundR_inv{gs:List (List Int)}{tt r:Nat}{ls:List Lnk}{d:List Nat}(hB:EdgB gs)(hg:∀i,i<gs.length→gs.getD i []=nextR ls i)(hl:∀x∈ls,LnkIn gs.length x)(hr:r<gs.length)(h:RInv gs tt r d):RInv gs tt (r+1) (roundR ls tt d):=by
 have hl2:∀x∈ls,∃i j:Nat,x.node=i∧i<gs.length∧x.prov=j∧j<gs.length∧(j:Int)∈gs.getD i []:=fun x hx=>by
  obtain⟨i,j,e1,e2,e3,e4⟩:=hl x hx
  exact⟨i,j,e1,e2,e3,e4,by rw[hg i e2,nextR_mem];exact⟨x,hx,e1,e3⟩⟩
 obtain⟨k1,k2,k3⟩:=foldR_inv ls d h hl2
 refine⟨k1.len,k1.lo,k1.hi,fun x hx hxr=>?_⟩
 by_cases e:Dp gs tt x≤r
 ·exact k1.up x hx e
 ·have hne:x≠tt:=fun q=>by rw[q,Dp_self] at e;omega
  obtain⟨y,y1,y2,y3⟩:=Dp_sup hB hne hx (by omega)
  rw[hg x hx,nextR_mem] at y1
  obtain⟨l,l1,l2,l3⟩:=y1
  have:=k3 l l1 x y l2 l3 (Dp_pos (gs:=gs) (tt:=tt) (x:=x) (by omega) hne).1 (by omega)
  show(ls.foldl (relR tt) d).getD x 0≤_
  omega
theorem roundsR_inv{gs:List (List Int)}{tt:Nat}{ls:List Lnk}{d:List Nat}(hB:EdgB gs)(hg:∀i,i<gs.length→gs.getD i []=nextR ls i)(hl:∀x∈ls,LnkIn gs.length x)(h:RInv gs tt 0 d):∀r,r≤gs.length→RInv gs tt r (roundsR ls tt r d)
 |0,_=>h
 |r+1,hr=>roundR_inv hB hg hl (by omega) (roundsR_inv hB hg hl h r (by omega))
theorem dR_eq{gs:List (List Int)}{tt:Nat}{ls:List Lnk}(hB:EdgB gs)(hg:∀i,i<gs.length→gs.getD i []=nextR ls i)(hl:∀x∈ls,LnkIn gs.length x)(ht:tt<gs.length):(dR ls gs.length tt).length=gs.length∧∀x,x<gs.length→(dR ls gs.length tt).getD x 0=Dp gs tt x:=by
 have h0:RInv gs tt 0 ((List.replicate gs.length (gs.length+1)).set tt 0):=by
  have hs:((List.replicate gs.length (gs.length+1)).set tt 0).getD tt 0=0:=getD_set_self' (by simpa using ht)
  have ho:∀x,x<gs.length→tt≠x→((List.replicate gs.length (gs.length+1)).set tt 0).getD x 0=gs.length+1:=fun x hx hne=>by
   rw[getD_set_other hne,List.getD_eq_getElem?_getD,List.getElem?_replicate,if_pos hx];rfl
  refine⟨by simp,fun x hx=>?_,fun x hx=>?_,fun x hx hr=>?_⟩
  ·by_cases e:tt=x
   ·subst e;rw[Dp_self];omega
   ·rw[ho x hx e];exact Dp_le gs tt x
  ·by_cases e:tt=x
   ·subst e;rw[hs];omega
   ·rw[ho x hx e];exact Nat.le_refl _
  ·have:x=tt:=Dp_zero (gs:=gs) (by omega)
   subst this
   rw[hs];omega
 have h:=roundsR_inv hB hg hl h0 gs.length (Nat.le_refl _)
 refine⟨h.len,fun x hx=>?_⟩
 have h1:=h.lo x hx
 have h2:=h.hi x hx
 have h3:=h.up x hx
 show(roundsR ls tt gs.length _).getD x 0=_
 by_cases e:Dp gs tt x≤gs.length
 ·have:=h3 e;omega
 ·have:=Dp_le gs tt x;omega
end Go.Proofs.YtdjhnfopdlgliaaGreat
