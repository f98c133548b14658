/- Lemmas and contracts for the proof of LinkAnswers (several texts in one, printed by wip/tools/pack.py): VbE VbF UgB VbG VbH. -/
import Derived.Test.YtdjhnfopdlgliaaGreatLa1ph
import Derived.Test.YtdjhnfopdlgliaaGreatLa1pb
import Derived.Test.YtdjhnfopdlgliaaGreatLa1pe
import Derived.Test.YtdjhnfopdlgliaaGreatLa1pd
set_option maxRecDepth 100000
set_option maxHeartbeats 16000000
set_option linter.unusedVariables false
set_option linter.unusedSimpArgs false
namespace Go.Proofs.YtdjhnfopdlgliaaGreat
open Go.RowKit
open Classical
theorem VT.parOk{ts:Tr}(h:VT ts):ParOk ts:=⟨by have:=h.few;omega,fun i hi h0=>⟨(h.nod h0 hi).1,(h.nod h0 hi).2.1⟩⟩
theorem VT.walkLen{ts:Tr}(h:VT ts):∀f x,ts.length≤f+x→x<ts.length→(walkF ts.length (pq ts) (nmT ts) f x).length≤1000:=fun f x h1 h2=>by
 obtain⟨e,he⟩:=end_ex ts.length (pq ts) x h2
 rw[walk_range h.shp f x e h1 h2 he,List.length_range']
 have:=h.few
 have:=he.hi
 omega
theorem ordered_ok(ts:Tr)(a:Option Addr)(cap:Nat)(w:World)(h:SlOf 3 RNod w a ts)(hv:VT ts):
  Calls Tryz.prog 95 #[.agg #[.slice a ts.length cap]] w (Grows w (.bool true)):=by
 have H:=Lib.hid h
 have HV:=Lib.hid hv
 have l1:=hv.pos
 have l2:=hv.few
 have WK:=Lib.hid (walk_ok ts hv.parOk hv.walkLen ts.length 0 (by omega) l1 a cap)
 rw[walk_all hv.shp l1 (Nat.le_refl _)] at WK
 clear h hv
 go_enter Tryz.func95,Tryz.ntmps95
 have RX:=Lib.hid (Row.new w #[.slice a ts.length cap] 31)
 go_wp2_with fail
 obtain⟨W,hW⟩:∃W:World,Hid (W=w.alloc (.cells #[.slice a ts.length cap] 31)):=⟨_,Lib.hid rfl⟩
 have GW:Hid (Gr w W):=Lib.hid (by rw[hW.out];exact(Gr.refl _).alloc _)
 rw[←hW.out] at RX ⊢
 obtain⟨PB,hPB⟩:∃N:Nat,Hid (w.heap.size=N):=⟨_,Lib.hid rfl⟩
 rw[hPB.out] at RX ⊢
 clear hW hPB
 refine(WK.out W (H.out.gr RNod.mono GW.out)).mono ?_
 rintro e w1 ⟨v,rfl,how,hg1⟩
 obtain⟨va,vc,rfl⟩:=owns_slice how
 rw[List.length_range] at how ⊢
 have OW:=Lib.hid how
 have G1:=Lib.hid (GW.out.trans hg1)
 have RX1:=Lib.hid (RX.out.gr hg1)
 clear how hg1 WK
 go_wp2_with fail
 go_loopw [11] (fun i wr=>∃k:Nat,k≤ts.length∧i= .int .i64 k∧Gr w1 wr) (fun i _=>ts.length-(intOf i).toNat)
 case atStart=>exact⟨0,Nat.zero_le _,rfl,Gr.refl _⟩
 case round=>
  obtain⟨k,hk,rfl,hg⟩:=hrel
  have HG:=Lib.hid hg
  clear hg
  by_cases hlt:k<ts.length
  ·obtain⟨g,cap2,e1,_,_,hc⟩:=owns_cell (Gr.owns OW.out HG.out) (by omega)
   simp only[Value.slice.injEq] at e1
   obtain⟨e1, -,e9⟩:=e1
   subst e1 e9
   have d0:=hc k (by omega)
   rw[ints_get (by simpa using hlt),List.getElem_range] at d0
   have hd0:=has_of_cell d0
   have kk:(k:Int)<ts.length:=by omega
   clear hc
   go_wp2_with fail
   go_roundw
   case rel=>exact⟨k+1,by omega,by go_num,HG.out⟩
   case measure=>simp[intOf];omega
  ·obtain rfl:k=ts.length:=by omega
   have x0:=(RX1.out.gr HG.out).cell 0 (by simp)
   have hxb:=has_of_cell x0
   go_wp2_with fail
   obtain⟨w4,rfl⟩:∃wo,wo=wr:=⟨_,rfl⟩
   have G4:=Lib.hid (G1.out.trans HG.out)
   go_loopw [23] (fun i wr=>∃k:Nat,k≤ts.length∧i= .int .i64 k∧Gr w4 wr) (fun i _=>ts.length-(intOf i).toNat)
   case atStart=>exact⟨0,Nat.zero_le _,rfl,Gr.refl _⟩
   case round=>
    obtain⟨k,hk,rfl,hg⟩:=hrel
    have HG5:=Lib.hid hg
    clear hg x0 hxb
    by_cases hlt:k<ts.length
    ·obtain⟨b,o,pa,pc,rfl,c0,c1,c2,hps,hpf,hw,hnl⟩:=nods_at (H.out.gr RNod.mono (G4.out.trans HG5.out)) k hlt
     have PP:=Lib.hid (HV.out.props hlt)
     obtain⟨n,hn⟩:∃n,ts[k]=n:=⟨_,rfl⟩
     rw[hn] at c0 c1 c2 hps PP
     have n10:=PP.out.len
     have HPS:=Lib.hid hps
     have hh:=has_of_cell c0
     have BX:=Lib.hid (Row.new wr #[.int .i64 n.parent,.string (bs n.name),.slice pa n.props.length pc] 55)
     clear hn hps hpf hw hnl
     go_wp2_with fail
     obtain⟨W6,hW6⟩:∃W:World,Hid (W=wr.alloc (.cells #[.int .i64 n.parent,.string (bs n.name),.slice pa n.props.length pc] 55)):=⟨_,Lib.hid rfl⟩
     have G6:Hid (Gr wr W6):=Lib.hid (by rw[hW6.out];exact(Gr.refl _).alloc _)
     rw[←hW6.out] at BX ⊢
     obtain⟨PX,hPX⟩:∃N:Nat,Hid (wr.heap.size=N):=⟨_,Lib.hid rfl⟩
     rw[hPX.out] at BX ⊢
     have G46:=Lib.hid (HG5.out.trans G6.out)
     have HP6:Hid (SlOf 2 RPrp W6 pa n.props):=Lib.hid (HPS.out.gr RPrp.mono G6.out)
     clear hW6 hPX c0 c1 c2 hh G6
     go_loopw [7] (fun i wq=>∃m:Nat,1≤m∧m≤n.props.length+1∧i= .int .i64 m∧Gr W6 wq) (fun i _=>n.props.length+1-(intOf i).toNat)
     case atStart=>exact⟨1,by omega,by omega,rfl,Gr.refl _⟩
     case round=>
      obtain⟨m,hm1,hm,rfl,hg⟩:=hrel
      have HG7:=Lib.hid hg
      have y2:=(BX.out.gr hg).cell 2 (by simp)
      have hyb:=has_of_cell y2
      clear hg
      by_cases hml:m<n.props.length
      ·obtain⟨m,rfl⟩:∃q,m=q+1:=⟨m-1,by omega⟩
       obtain⟨b2,o2,rfl,d0,d1,_,_⟩:=prps_at (HP6.out.gr RPrp.mono HG7.out) m (by omega)
       obtain⟨b3,o3,e3,f0,f1,_,_⟩:=prps_at (HP6.out.gr RPrp.mono HG7.out) (m+1) hml
       cases e3
       have ASC:=PP.out.asc
       rw[List.pairwise_iff_getElem] at ASC
       have hlt2:=ASC m (m+1) (by omega) hml (by omega)
       obtain⟨na,hna⟩:∃q,n.props[m].name=q:=⟨_,rfl⟩
       obtain⟨nb,hnb⟩:∃q,n.props[m+1].name=q:=⟨_,rfl⟩
       rw[hna] at d0 hlt2
       rw[hnb] at f0 hlt2
       have q1:(!Op.bytesLess na nb)=false:=by unfold ltS at hlt2;rw[hlt2];rfl
       have hd:=has_of_cell d0
       have mm:((m:Int)+1)<n.props.length:=by omega
       have mm2:(m:Int)<n.props.length:=by omega
       have mw:IntKind.i64.wrap (((m:Int)+1)-1)=m:=by simp[IntKind.wrap,IntKind.bits,IntKind.signed];omega
       clear ASC hlt2 hna hnb d1 f1
       go_wp2_with fail
       go_quiet (fail)
       go_wp2_with fail
       exact⟨⟨m+2,by omega,by omega,by go_num,HG7.out.drewN _⟩,by simp[intOf];omega⟩
      ·have mm:¬(m:Int)<n.props.length:=by omega
       go_wp2_with fail
       go_roundw
       case rel=>exact⟨k+1,by omega,by go_num,G46.out.trans HG7.out⟩
       case measure=>simp[intOf];omega
    ·go_wp2_with fail
     go_ret
     exact⟨ret_bool (by simp),G4.out.trans HG5.out⟩
/-! Check. -/
theorem VT.sibE{ts:Tr}(h:VT ts){i j:Nat}(h0:0<i)(hij:i<j)(hj:j<ts.length)(he:ts[i].parent=ts[j].parent):ts[i].name≠ts[j].name:=by
 have h1:=h.nod h0 (by omega)
 have h2:=h.nod (show 0<j by omega) hj
 rw[h1.2.2,h2.2.2]
 rw[h1.1,h2.1] at he
 exact vlt_ne (h.shp.sib i j h0 hij hj (by omega))
theorem rCheck_ok(ts:Tr)(a:Option Addr)(cap:Nat)(w:World)(h:SlOf 3 RNod w a ts)(hv:VT ts):
  Calls Tryz.prog 49 #[.agg #[.slice a ts.length cap]] w (Grows w (.int .i64 0)):=by
 have H:=Lib.hid h
 have HV:=Lib.hid hv
 have l1:=hv.pos
 have l2:=hv.few
 clear h hv
 go_enter Tryz.func49,Tryz.ntmps49
 have RX:=Lib.hid (Row.new w #[.slice a ts.length cap] 31)
 go_wp2_with fail
 obtain⟨W,hW⟩:∃W:World,Hid (W=w.alloc (.cells #[.slice a ts.length cap] 31)):=⟨_,Lib.hid rfl⟩
 have GW:Hid (Gr w W):=Lib.hid (by rw[hW.out];exact(Gr.refl _).alloc _)
 rw[←hW.out] at RX ⊢
 obtain⟨PB,hPB⟩:∃N:Nat,Hid (w.heap.size=N):=⟨_,Lib.hid rfl⟩
 rw[hPB.out] at RX ⊢
 clear hW hPB
 refine(limits_ok ts a cap W (H.out.gr RNod.mono GW.out) HV.out.lim).mono ?_
 rintro e w1 ⟨rfl,hg1⟩
 have G1:=Lib.hid (GW.out.trans hg1)
 have RX1:=Lib.hid (RX.out.gr hg1)
 have x0:=RX1.out.cell 0 (by simp)
 have hxb:=has_of_cell x0
 clear hg1 RX GW
 go_wp2_with fail
 clear x0 hxb
 refine(names_ok ts a cap w1 (H.out.gr RNod.mono G1.out) HV.out).mono ?_
 rintro e w2 ⟨rfl,hg2⟩
 have G2:=Lib.hid (G1.out.trans hg2)
 have RX2:=Lib.hid (RX1.out.gr hg2)
 have x0:=RX2.out.cell 0 (by simp)
 have hxb:=has_of_cell x0
 clear hg2 RX1 G1
 go_wp2_with fail
 clear x0 hxb
 refine(ordered_ok ts a cap w2 (H.out.gr RNod.mono G2.out) HV.out).mono ?_
 rintro e w3 ⟨rfl,hg3⟩
 have G3:=Lib.hid (G2.out.trans hg3)
 have RX3:=Lib.hid (RX2.out.gr hg3)
 have x0:=RX3.out.cell 0 (by simp)
 have hxb:=has_of_cell x0
 clear hg3 RX2 G2
 go_wp2_with fail
 clear x0 hxb
 go_loopw [18] (fun i wr=>∃k:Nat,k≤ts.length∧i= .int .i64 k∧Gr w3 wr) (fun i _=>ts.length-(intOf i).toNat)
 case atStart=>exact⟨0,Nat.zero_le _,rfl,Gr.refl _⟩
 case round=>
  obtain⟨k,hk,rfl,hg⟩:=hrel
  have HG:=Lib.hid hg
  have G4:=Lib.hid (G3.out.trans hg)
  have RX4:=Lib.hid (RX3.out.gr hg)
  clear hg
  by_cases hlt:k<ts.length
  ·obtain⟨b,o,pa,pc,rfl,c0,c1,c2,hps,hpf,hw,hnl⟩:=nods_at (H.out.gr RNod.mono G4.out) k hlt
   obtain⟨n,hn⟩:∃n,ts[k]=n:=⟨_,rfl⟩
   have HN:=Lib.hid hn
   rw[hn] at c0 c1 c2
   have hh:=has_of_cell c0
   have BX:=Lib.hid (Row.new wr #[.int .i64 n.parent,.string (bs n.name),.slice pa n.props.length pc] 55)
   clear hn hps hpf hw hnl
   go_wp2_with fail
   obtain⟨W6,hW6⟩:∃W:World,Hid (W=wr.alloc (.cells #[.int .i64 n.parent,.string (bs n.name),.slice pa n.props.length pc] 55)):=⟨_,Lib.hid rfl⟩
   have G6:Hid (Gr wr W6):=Lib.hid (by rw[hW6.out];exact(Gr.refl _).alloc _)
   rw[←hW6.out] at BX ⊢
   obtain⟨PX,hPX⟩:∃N:Nat,Hid (wr.heap.size=N):=⟨_,Lib.hid rfl⟩
   rw[hPX.out] at BX ⊢
   have G46:=Lib.hid (G4.out.trans G6.out)
   have G36:=Lib.hid (HG.out.trans G6.out)
   have RX6:=Lib.hid (RX4.out.gr G6.out)
   clear hW6 hPX c0 c1 c2 hh G6
   go_loopw [5] (fun i wq=>∃m:Nat,1≤m∧m≤ts.length+1∧i= .int .i64 m∧Gr W6 wq) (fun i _=>ts.length+1-(intOf i).toNat)
   case atStart=>exact⟨1,by omega,by omega,rfl,Gr.refl _⟩
   case round=>
    obtain⟨m,hm1,hm,rfl,hg⟩:=hrel
    have HG7:=Lib.hid hg
    have x0:=(RX6.out.gr hg).cell 0 (by simp)
    have hxb:=has_of_cell x0
    have y0:=(BX.out.gr hg).cell 0 (by simp)
    have y1:=(BX.out.gr hg).cell 1 (by simp)
    have hyb:=has_of_cell y0
    clear hg
    by_cases hml:m<k
    ·have hmn:m<ts.length:=by omega
     obtain⟨b2,o2,pa2,pc2,e2,d0,d1,d2,_⟩:=nods_at (H.out.gr RNod.mono (G46.out.trans HG7.out)) m hmn
     cases e2
     have SB:=Lib.hid (fun he=>HV.out.sibE (i:=m) (j:=k) (by omega) hml hlt he)
     rw[HN.out] at SB
     obtain⟨nm,hnm⟩:∃n,ts[m]=n:=⟨_,rfl⟩
     rw[hnm] at d0 d1 d2 SB
     have hd:=has_of_cell d0
     have mm:(m:Int)<k:=by omega
     have mn:(m:Int)<ts.length:=by omega
     clear hnm d2
     by_cases hp:nm.parent=n.parent
     ·have b1:(nm.parent==n.parent)=true:=by rw[beq_iff_eq];exact hp
      have b2':(nm.name==n.name)=false:=by rw[beq_eq_false_iff_ne];exact SB.out hp
      clear hp
      go_wp2_with fail
      go_quiet (fail)
      go_wp2_with fail
      exact⟨⟨m+1,by omega,by omega,by go_num,HG7.out.drewN _⟩,by simp[intOf];omega⟩
     ·have b1:(nm.parent==n.parent)=false:=by rw[beq_eq_false_iff_ne];exact hp
      clear hp
      go_wp2_with fail
      go_quiet (fail)
      go_wp2_with fail
      exact⟨⟨m+1,by omega,by omega,by go_num,HG7.out.drewN _⟩,by simp[intOf];omega⟩
    ·have mm:¬(m:Int)<k:=by omega
     go_wp2_with fail
     go_roundw
     case rel=>exact⟨k+1,by omega,by go_num,G36.out.trans HG7.out⟩
     case measure=>simp[intOf];omega
  ·have x0:=RX4.out.cell 0 (by simp)
   have hxb:=has_of_cell x0
   go_wp2_with fail
   clear x0 hxb
   obtain⟨w5,rfl⟩:∃wo,wo=wr:=⟨_,rfl⟩
   go_loopw [52] (fun i wr=>∃k:Nat,k≤ts.length∧i= .int .i64 k∧Gr w5 wr) (fun i _=>ts.length-(intOf i).toNat)
   case atStart=>exact⟨0,Nat.zero_le _,rfl,Gr.refl _⟩
   case round=>
    obtain⟨k2,hk2,rfl,hg⟩:=hrel
    have HG5:=Lib.hid hg
    have x0:=(RX4.out.gr hg).cell 0 (by simp)
    have hxb:=has_of_cell x0
    clear hg
    by_cases hlt2:k2<ts.length
    ·obtain⟨d,hd8,hdd⟩:=HV.out.shp.dep k2 hlt2
     have DD:=Lib.hid hdd
     have d8:(d:Int)≤8:=by omega
     have kk:(k2:Int)<ts.length:=by omega
     clear hdd
     go_wp2_with fail
     refine(level_ok ts a cap k2 d wr (H.out.gr RNod.mono (G4.out.trans HG5.out)) HV.out hlt2 DD.out (by omega)).mono ?_
     rintro e w6 ⟨rfl,hg6⟩
     have HG6:=Lib.hid (HG5.out.trans hg6)
     clear hg6 x0 hxb
     go_wp2_with fail
     go_roundw
     case rel=>exact⟨k2+1,by omega,by go_num,HG6.out⟩
     case measure=>simp[intOf];omega
    ·go_wp2_with fail
     go_ret
     exact⟨rfl,G4.out.trans HG5.out⟩
def PathIs(ts:Tr)(k:Nat)(s:St):Prop:=∃x,Pth ts k x∧s=if k=0 then [47] else x
theorem pth_one{ts:Tr}{k:Nat}{x y:St}(h:Pth ts k x)(h2:Pth ts k y):x=y:=by
 induction h generalizing y with
 |zero=>
  cases h2 with
  |zero=>rfl
  |succ z _=>omega
 |succ z1 _ ih=>
  cases h2 with
  |zero=>omega
  |succ _ z2=>rw[ih z2]
theorem PathIs.one{ts:Tr}{k:Nat}{x y:St}(h:PathIs ts k x)(h2:PathIs ts k y):x=y:=by
 obtain⟨a,h3,rfl⟩:=h
 obtain⟨b,h4,rfl⟩:=h2
 rw[pth_one h3 h4]
theorem VT.pathEx{ts:Tr}(h:VT ts){k:Nat}(hk:k<ts.length):∃s,PathIs ts k s∧s.length≤10000:=by
 obtain⟨x,hx,hl⟩:=pth_ex h k hk
 have:=h.few
 refine⟨_,⟨x,hx,rfl⟩,?_⟩
 split
 ·simp
 ·omega
theorem path_is(ts:Tr)(a:Option Addr)(cap i:Nat)(s:St)(w:World)(h:SlOf 3 RNod w a ts)(hv:VT ts)(hi:i<ts.length)(hp:PathIs ts i s):
  Calls Tryz.prog 128 #[.agg #[.slice a ts.length cap],.int .i64 i] w (Grows w (.string (bs s))):=by
 obtain⟨x,hx,rfl⟩:=hp
 obtain⟨y,hy,hl⟩:=pth_ex hv i hi
 obtain rfl:=pth_one hx hy
 have:=hv.few
 exact path_ok ts a cap i x w h hv hi hx (by omega)
theorem rPath_ok(ts:Tr)(a:Option Addr)(cap i:Nat)(s:St)(w:World)(h:SlOf 3 RNod w a ts)(hv:VT ts)(hi:i<ts.length)(hp:PathIs ts i s):
  Calls Tryz.prog 79 #[.agg #[.slice a ts.length cap],.int .i64 i] w (Grows w (.string (bs s))):=by
 have H:=Lib.hid h
 have HV:=Lib.hid hv
 have HP:=Lib.hid hp
 have l2:=hv.few
 clear h hv hp
 go_enter Tryz.func79,Tryz.ntmps79
 have RX:=Lib.hid (Row.new w #[.slice a ts.length cap] 31)
 go_wp2_with fail
 obtain⟨W,hW⟩:∃W:World,Hid (W=w.alloc (.cells #[.slice a ts.length cap] 31)):=⟨_,Lib.hid rfl⟩
 have GW:Hid (Gr w W):=Lib.hid (by rw[hW.out];exact(Gr.refl _).alloc _)
 rw[←hW.out] at RX ⊢
 obtain⟨PB,hPB⟩:∃N:Nat,Hid (w.heap.size=N):=⟨_,Lib.hid rfl⟩
 rw[hPB.out] at RX ⊢
 clear hW hPB
 refine(rCheck_ok ts a cap W (H.out.gr RNod.mono GW.out) HV.out).mono ?_
 rintro e w1 ⟨rfl,hg1⟩
 have G1:=Lib.hid (GW.out.trans hg1)
 have x0:=(RX.out.gr hg1).cell 0 (by simp)
 have hxb:=has_of_cell x0
 have ii:(i:Int)<ts.length:=by omega
 have i0:¬(i:Int)<0:=by omega
 clear hg1
 go_wp2_with fail
 refine(path_is ts a cap i s w1 (H.out.gr RNod.mono G1.out) HV.out hi HP.out).mono ?_
 rintro e w2 ⟨rfl,hg2⟩
 have G2:=Lib.hid (G1.out.trans hg2)
 clear hg2 x0 hxb
 go_wp2_with fail
 go_ret
 exact⟨rfl,G2.out⟩
def FindAt(ts:Tr)(s:St)(r:Int):Prop:=(r= -1∧∀k,k<ts.length→¬PathIs ts k s)∨∃k:Nat,k<ts.length∧r=k∧PathIs ts k s
theorem rFind_ok(ts:Tr)(a:Option Addr)(cap:Nat)(s:St)(w:World)(h:SlOf 3 RNod w a ts)(hv:VT ts):
  Calls Tryz.prog 153 #[.agg #[.slice a ts.length cap],.string (bs s)] w fun e w'=>∃r,e= .returned (.int .i64 r)∧FindAt ts s r∧Gr w w':=by
 have H:=Lib.hid h
 have HV:=Lib.hid hv
 have l2:=hv.few
 clear h hv
 obtain⟨P0,hP0⟩:∃P:Ending→World→Prop,P=fun e w'=>∃r,e= .returned (.int .i64 r)∧FindAt ts s r∧Gr w w':=⟨_,rfl⟩
 rw[←hP0]
 have HP0:=Lib.hid hP0
 clear hP0
 go_enter Tryz.func153,Tryz.ntmps153
 have RX:=Lib.hid (Row.new w #[.slice a ts.length cap] 31)
 go_wp2_with fail
 obtain⟨W,hW⟩:∃W:World,Hid (W=w.alloc (.cells #[.slice a ts.length cap] 31)):=⟨_,Lib.hid rfl⟩
 have GW:Hid (Gr w W):=Lib.hid (by rw[hW.out];exact(Gr.refl _).alloc _)
 rw[←hW.out] at RX ⊢
 obtain⟨PB,hPB⟩:∃N:Nat,Hid (w.heap.size=N):=⟨_,Lib.hid rfl⟩
 rw[hPB.out] at RX ⊢
 clear hW hPB
 go_loopw [9] (fun i wr=>∃k:Nat,k≤ts.length∧i= .int .i64 k∧(∀j,j<k→¬PathIs ts j s)∧Gr W wr) (fun i _=>ts.length-(intOf i).toNat)
 case atStart=>exact⟨0,Nat.zero_le _,rfl,fun j h=>absurd h (by omega),Gr.refl _⟩
 case round=>
  obtain⟨k,hk,rfl,hno,hg⟩:=hrel
  have NO:=Lib.hid hno
  have HG:=Lib.hid hg
  have x0:=(RX.out.gr hg).cell 0 (by simp)
  have hxb:=has_of_cell x0
  clear hno hg
  by_cases hlt:k<ts.length
  ·obtain⟨y,hy,hyl⟩:=HV.out.pathEx hlt
   have HY:=Lib.hid hy
   have kk:(k:Int)<ts.length:=by omega
   clear hy
   go_wp2_with fail
   refine(path_is ts a cap k y wr (H.out.gr RNod.mono (GW.out.trans HG.out)) HV.out hlt HY.out).mono ?_
   rintro e w2 ⟨rfl,hg2⟩
   have G2:=Lib.hid (HG.out.trans hg2)
   clear hg2 x0 hxb
   by_cases hq:y=s
   ·subst hq
    go_wp2_with fail
    rw[HP0.out]
    exact⟨_,rfl,.inr ⟨k,hlt,rfl,HY.out⟩,GW.out.trans G2.out⟩
   ·have b1:(y==s)=false:=by rw[beq_eq_false_iff_ne];exact hq
    have HQ:=Lib.hid hq
    clear hq
    go_wp2_with fail
    go_roundw
    case rel=>
     refine⟨k+1,by omega,by go_num,fun j hj hp=>?_,G2.out⟩
     by_cases e:j=k
     ·subst e;exact HQ.out (HY.out.one hp)
     ·exact NO.out j (by omega) hp
    case measure=>simp[intOf];omega
  ·go_wp2_with fail
   rw[HP0.out]
   exact⟨_,rfl,.inl ⟨rfl,fun j hj=>NO.out j (by omega)⟩,GW.out.trans HG.out⟩
def GivesBeg(ts:Tr)(s:St)(w:World)(e:Ending)(w':World):Prop:=
 Gr w w'∧((e= .returned (.tuple #[.int .i64 0,.int .i64 4])∧∀k,k<ts.length→¬PathIs ts k s)∨∃k:Nat,k<ts.length∧e= .returned (.tuple #[.int .i64 k,.int .i64 0])∧PathIs ts k s)
theorem rBegin_ok(ts:Tr)(a:Option Addr)(cap:Nat)(s:St)(w:World)(h:SlOf 3 RNod w a ts)(hv:VT ts):
  Calls Tryz.prog 136 #[.agg #[.slice a ts.length cap],.string (bs s)] w (GivesBeg ts s w):=by
 have H:=Lib.hid h
 have HV:=Lib.hid hv
 have l2:=hv.few
 clear h hv
 obtain⟨P0,hP0⟩:∃P:Ending→World→Prop,P=GivesBeg ts s w:=⟨_,rfl⟩
 rw[←hP0]
 have HP0:=Lib.hid hP0
 clear hP0
 go_enter Tryz.func136,Tryz.ntmps136
 have RX:=Lib.hid (Row.new w #[.slice a ts.length cap] 31)
 go_wp2_with fail
 obtain⟨W,hW⟩:∃W:World,Hid (W=w.alloc (.cells #[.slice a ts.length cap] 31)):=⟨_,Lib.hid rfl⟩
 have GW:Hid (Gr w W):=Lib.hid (by rw[hW.out];exact(Gr.refl _).alloc _)
 rw[←hW.out] at RX ⊢
 obtain⟨PB,hPB⟩:∃N:Nat,Hid (w.heap.size=N):=⟨_,Lib.hid rfl⟩
 rw[hPB.out] at RX ⊢
 clear hW hPB
 refine(rCheck_ok ts a cap W (H.out.gr RNod.mono GW.out) HV.out).mono ?_
 rintro e w1 ⟨rfl,hg1⟩
 have G1:=Lib.hid (GW.out.trans hg1)
 have x0:=(RX.out.gr hg1).cell 0 (by simp)
 have hxb:=has_of_cell x0
 clear hg1
 go_wp2_with fail
 refine(rFind_ok ts a cap s w1 (H.out.gr RNod.mono G1.out) HV.out).mono ?_
 rintro e w2 ⟨r,rfl,hf,hg2⟩
 have G2:=Lib.hid (G1.out.trans hg2)
 clear hg2 x0 hxb
 rcases hf with⟨rfl,hno⟩|⟨k,hk,rfl,hp⟩
 ·have NO:=Lib.hid hno
  clear hno
  go_wp2_with fail
  rw[HP0.out]
  exact⟨G2.out,.inl ⟨rfl,NO.out⟩⟩
 ·have HPT:=Lib.hid hp
  clear hp
  go_wp2_with fail
  rw[HP0.out]
  exact⟨G2.out,.inr ⟨k,hk,rfl,HPT.out⟩⟩
def strV(l:List St):List Value:=l.map (fun s=>Value.string (bs s))
def sndN:Nat→Code→Code
 |0,c=>c
 |n+1,.seq _ b=>sndN n b
 |_,c=>c
def cutAt:Nat→Code→Code→Code
 |0,_,T=>T
 |n+1,.seq a b,T=> .seq a (cutAt n b T)
 |_,c,_=>c
theorem cut_eq:∀n c,cutAt n c (sndN n c)=c
 |0,c=>rfl
 |n+1,c=>by
  cases c
  case seq a b=>unfold cutAt sndN;rw[cut_eq n b]
  all_goals rfl
def tl(n:Nat)(f:Func):Code:=(f.body.map (sndN n)).getD .skip
theorem wp_cut(n:Nat){P:Program}{c:Code}{Q:Exit→Act→World→Prop}{a:Act}{w:World}(h:∀T,Hid (T=sndN n c)→(cutAt n c T).wp P Q a w):c.wp P Q a w:=by
 have:=h _ (Lib.hid rfl)
 rwa [cut_eq] at this
theorem wp_at{P:Program}{T c c':Code}{Q:Exit→Act→World→Prop}{a:Act}{w:World}(hT:Hid (T=c))(he:c'=c)(h:c'.wp P Q a w):T.wp P Q a w:=by
 rw[hT.out,←he];exact h
def propsL:List St:= [[114,101,103],[99,111,109,112,97,116,105,98,108,101],[115,116,97,116,117,115],[99,108,111,99,107,115],[35,99,101,108,108,115],[112],[113],[108,97,98,101,108],[118,97,108,117,101]]
theorem props_ok:propsL.all (fun s=>propOk s&&decide (s.length≤31))=true:=by kernel_rfl
theorem prop_ok{s:St}(h:s∈propsL):propOk s=true∧s.length≤31:=by
 have:=List.all_eq_true.1 props_ok s h
 simpa using this
theorem strV_get{l:List St}{k:Nat}(h:k<l.length)(h2:k<(strV l).length):(strV l)[k]= .string (bs l[k]):=by simp[strV]
theorem property_any(w:World)(b len:Nat)(h:Tp w b len):
  Calls Tryz.prog 24 #[.pointer (some ⟨b,0,none⟩)] w fun e w'=>∃s,s∈propsL∧e= .returned (.string (bs s))∧Mv b len w w':=by
 have H:=Lib.hid h
 have hb:=h.has
 clear h
 go_enter Tryz.func24,Tryz.ntmps24
 go_wp2_with fail
 have RX:Hid (Row (w.alloc (.cells #[.string ⟨#[114,101,103]⟩,.string ⟨#[99,111,109,112,97,116,105,98,108,101]⟩,.string ⟨#[115,116,97,116,117,115]⟩,.string ⟨#[99,108,111,99,107,115]⟩,.string ⟨#[35,99,101,108,108,115]⟩,.string ⟨#[112]⟩,.string ⟨#[113]⟩,.string ⟨#[108,97,98,101,108]⟩,.string ⟨#[118,97,108,117,101]⟩] 9)) w.heap.size 9 (strV propsL)):=Lib.hid (Row.new w #[.string ⟨#[114,101,103]⟩,.string ⟨#[99,111,109,112,97,116,105,98,108,101]⟩,.string ⟨#[115,116,97,116,117,115]⟩,.string ⟨#[99,108,111,99,107,115]⟩,.string ⟨#[35,99,101,108,108,115]⟩,.string ⟨#[112]⟩,.string ⟨#[113]⟩,.string ⟨#[108,97,98,101,108]⟩,.string ⟨#[118,97,108,117,101]⟩] 9)
 obtain⟨W,hW⟩:∃W:World,Hid (W=w.alloc (.cells #[.string ⟨#[114,101,103]⟩,.string ⟨#[99,111,109,112,97,116,105,98,108,101]⟩,.string ⟨#[115,116,97,116,117,115]⟩,.string ⟨#[99,108,111,99,107,115]⟩,.string ⟨#[35,99,101,108,108,115]⟩,.string ⟨#[112]⟩,.string ⟨#[113]⟩,.string ⟨#[108,97,98,101,108]⟩,.string ⟨#[118,97,108,117,101]⟩] 9)):=⟨_,Lib.hid rfl⟩
 have GW:Hid (Gr w W):=Lib.hid (by rw[hW.out];exact(Gr.refl _).alloc _)
 rw[←hW.out] at RX ⊢
 clear hW
 refine(nM_any W b len 9 (H.out.gr GW.out) (by omega) (by omega)).mono ?_
 rintro e w1 ⟨x,rfl,⟨x0,x1⟩,hm⟩
 have MV:=Lib.hid ((Mv.of_gr H.out GW.out).trans H.out.has hm)
 have RY:=Lib.hid (hm.row RX.out (by omega))
 obtain⟨k,rfl⟩:=Int.eq_ofNat_of_zero_le x0
 have hk:k<propsL.length:=by simp[propsL];omega
 have c0:=RY.out.cell k (by simpa [strV] using hk)
 rw[strV_get hk] at c0
 have hh:=has_of_cell c0
 have k9:(k:Int)<9:=by omega
 have MEM:=Lib.hid (List.getElem_mem hk)
 obtain⟨s,hs⟩:∃s,propsL[k]=s:=⟨_,rfl⟩
 rw[hs] at c0 MEM
 clear hm hs x0 x1
 go_wp2_with fail
 go_ret
 exact⟨s,MEM.out,rfl,MV.out⟩
theorem Mv.gb{w w':World}{b len:Nat}(h:Mv b len w w'):w.grownBy w' (some b):=by
 obtain⟨p,h0,h1,hg⟩:=h
 have k:=hg.below
 refine⟨k.os,k.tape,k.output,by have:=k.size;rwa [size_set] at this,fun i hi hne=>?_⟩
 rw[k.block i (by rw[size_set];exact hi)]
 have:b≠i:=fun e=>hne (by rw[e])
 simp[World.setCell,Array.getElem?_modify,this]
theorem own_ne{w:World}{base e size n b:Nat}{v:Value}{xs:List Value}(h:w.ownsRow base e size v n xs)(hb:b<base):v.ownBlock=none∨v.ownBlock≠some b:=by
 cases hz:v.ownBlock with
 |none=>exact .inl rfl
 |some g=>exact .inr fun e=>by have:=(h.lt g hz).1;injection e with e;omega
def encP(p:Prp):List Value:= [.string (bs p.name),.string (bs p.val)]
structure NM where
 n:Nod
 a:Option Addr
 c:Nat
def NM.enc(m:NM):List Value:= [.int .i64 m.n.parent,.string (bs m.n.name),.slice m.a m.n.props.length m.c]
theorem NM.enc_len(m:NM):m.enc.length=3:=rfl
theorem NM.enc_one(m:NM):∀u∈m.enc,u.oneCell'=true:=by
 intro u hu
 simp only[NM.enc,List.mem_cons,List.not_mem_nil,or_false] at hu
 rcases hu with q|q|q<;>subst q<;>rfl
theorem flatP_one(l:List Prp):∀u∈l.flatMap encP,u.oneCell'=true:=by
 intro u hu
 obtain⟨p,_,h⟩:=List.mem_flatMap.1 hu
 simp only[encP,List.mem_cons,List.not_mem_nil,or_false] at h
 rcases h with q|q<;>subst q<;>rfl
theorem flatP_len(l:List Prp):(l.flatMap encP).length=l.length*2:=flat_len encP 2 (fun _=>rfl) l
structure SmN(n:Nod):Prop where
 plo: -1≤n.parent
 phi:n.parent≤1000
 nam:n.name.length≤1000
 len:n.props.length≤1000
 prp:∀p∈n.props,p.name.length≤1000∧p.val.length≤100000
theorem VT.sm{ts:Tr}(h:VT ts):∀n∈ts,SmN n:=fun n hn=>by
 obtain⟨k,hk,rfl⟩:=List.getElem_of_mem hn
 have hp:=h.props hk
 have few:=h.few
 have hl:=hp.len
 have hpp:∀p∈ts[k].props,p.name.length≤1000∧p.val.length≤100000:=fun p hm=>by
  have h1:=(hp.prop p hm).2
  have h2:=(hp.mem p hm).2
  exact⟨by omega,by omega⟩
 rcases h.hdr hk with⟨_,q1,q2⟩|⟨h0,q1,q2,_⟩
 ·exact⟨by omega,by omega,by rw[q2];simp,by omega,hpp⟩
 ·have:=(h.name h0 hk).2
  rw[←nmT_get hk] at this
  exact⟨by omega,by omega,by omega,by omega,hpp⟩
structure NdAt(base:Nat)(w:World)(m:NM):Prop where
 own:w.ownsRow base 89 2 (.slice m.a m.n.props.length m.c) m.n.props.length (m.n.props.flatMap encP)
 sm:SmN m.n
theorem NdAt.gr{base:Nat}{w w':World}{m:NM}(h:NdAt base w m)(hg:Gr w w'):NdAt base w' m:=⟨Gr.owns h.own hg,h.sm⟩
theorem NdAt.low{base base':Nat}{w:World}{m:NM}(h:NdAt base w m)(hb:base'≤base):NdAt base' w m:=⟨owns_low h.own hb,h.sm⟩
theorem NdAt.kept{base:Nat}{w w':World}{row:Option Nat}{m:NM}(h:NdAt base w m)(hg:w.grownBy w' row)(hv:(Value.slice m.a m.n.props.length m.c).ownBlock=none∨(Value.slice m.a m.n.props.length m.c).ownBlock≠row):NdAt base w' m:=⟨h.own.kept hg hv,h.sm⟩
structure TrAt(base:Nat)(w:World)(v:Value)(ms:List NM):Prop where
 own:w.ownsRow base 55 3 v ms.length (ms.flatMap NM.enc)
 nds:∀m∈ms,NdAt base w m
theorem TrAt.nil(base:Nat)(w:World):TrAt base w (.slice none 0 0) []:=⟨World.ownsRow_nil _ _ _ _,fun m h=>by cases h⟩
theorem TrAt.gr{base:Nat}{w w':World}{v:Value}{ms:List NM}(h:TrAt base w v ms)(hg:Gr w w'):TrAt base w' v ms:=⟨Gr.owns h.own hg,fun m hm=>(h.nds m hm).gr hg⟩
theorem TrAt.low{base base':Nat}{w:World}{v:Value}{ms:List NM}(h:TrAt base w v ms)(hb:base'≤base):TrAt base' w v ms:=⟨owns_low h.own hb,fun m hm=>(h.nds m hm).low hb⟩
theorem TrAt.mv{base:Nat}{w w':World}{b len:Nat}{v:Value}{ms:List NM}(h:TrAt base w v ms)(hb:b<base)(hm:Mv b len w w'):TrAt base w' v ms:=
 ⟨h.own.kept hm.gb (own_ne h.own hb),fun m hmm=>(h.nds m hmm).kept hm.gb (own_ne (h.nds m hmm).own hb)⟩
theorem NdAt.ne_row{base base2:Nat}{w:World}{m:NM}{B:Nat}(h:NdAt base w m)(ht:Ty w B base2)(hne:89≠base2):(Value.slice m.a m.n.props.length m.c).ownBlock=none∨(Value.slice m.a m.n.props.length m.c).ownBlock≠some B:=by
 cases hz:(Value.slice m.a m.n.props.length m.c).ownBlock with
 |none=>exact .inl rfl
 |some g=>exact .inr fun e=>(owns_ty h.own hz).apart ht hne (Option.some.inj e)
theorem TrAt.box{base:Nat}{w:World}{v:Value}{ms:List NM}{B o T:Nat}{u:Value}(h:TrAt base w v ms)(ht:Ty w B T)(h1:89≠T)(h2:v.ownBlock=none∨v.ownBlock≠some B):TrAt base (w.setCell ⟨B,o,none⟩ u) v ms:=
 ⟨h.own.kept (grownBy_set w B o u) h2,fun m hm=>(h.nds m hm).kept (grownBy_set w B o u) ((h.nds m hm).ne_row ht h1)⟩
theorem TrAt.ne_ty{base:Nat}{w:World}{v:Value}{ms:List NM}{B T:Nat}(h:TrAt base w v ms)(ht:Ty w B T)(h1:55≠T):v.ownBlock=none∨v.ownBlock≠some B:=by
 cases hz:v.ownBlock with
 |none=>exact .inl rfl
 |some g=>exact .inr fun e=>(owns_ty h.own hz).apart ht h1 (Option.some.inj e)
theorem TrAt.snoc{base:Nat}{w w':World}{v v':Value}{ms:List NM}{m:NM}(h:TrAt base w v ms)(hg:w.grownBy w' v.ownBlock)(ho:w'.ownsRow base 55 3 v' (ms.length+1) (ms.flatMap NM.enc++m.enc))(hm:NdAt base w m):TrAt base w' v' (ms++ [m]):=by
 refine⟨by rw[List.length_append,List.flatMap_append,List.flatMap_cons,List.flatMap_nil,List.append_nil];exact ho,fun t ht=>?_⟩
 rcases List.mem_append.1 ht with ht|ht
 ·exact(h.nds t ht).kept hg (owns_ne (h.nds t ht).own h.own (by decide))
 ·rw[List.mem_singleton.1 ht]
  exact hm.kept hg (owns_ne hm.own h.own (by decide))
theorem prps_sl{base:Nat}{w:World}{a:Option Addr}{n c:Nat}{ps:List Prp}(h:w.ownsRow base 89 2 (.slice a n c) ps.length (ps.flatMap encP))(hs:∀p∈ps,p.name.length≤1000∧p.val.length≤100000):SlOf 2 RPrp w a ps:=by
 intro k hk
 obtain⟨g,cap,e1,h1,_,hc⟩:=owns_cell h (by omega)
 cases e1
 have hf:=fun j (hj:j<2)=>flat_at encP 2 (fun _=>rfl) ps k j hk hj
 have h2:∀j,j<2→w.cell? ⟨g,k*2+j,none⟩=(encP ps[k])[j]?:=fun j hj=>by rw[hc (k*2+j) (by omega)];exact hf j hj
 have:=hs _ (List.getElem_mem hk)
 refine⟨g,0,rfl,⟨?_,by omega⟩,?_,by omega⟩
 all_goals rw[Nat.zero_add]
 ·rw[show k*2=k*2+0 from rfl,h2 0 (by omega)];rfl
 ·rw[h2 1 (by omega)];rfl
theorem TrAt.sl{base:Nat}{w:World}{ms:List NM}{a:Option Addr}{n c:Nat}(h:TrAt base w (.slice a n c) ms):n=ms.length∧SlOf 3 RNod w a (ms.map NM.n):=by
 have hn:n=ms.length:=by
  rcases h.own.2 with⟨e,z⟩|⟨g,cap,cur,e,_⟩
  ·cases e;exact z.symm
  ·cases e;rfl
 refine⟨hn,fun k hk=>?_⟩
 rw[List.length_map] at hk
 obtain⟨g,cap,e1,h1,_,hc⟩:=owns_cell h.own (by omega)
 cases e1
 have hf:=fun j (hj:j<3)=>flat_at NM.enc 3 (fun _=>rfl) ms k j hk hj
 have h2:∀j,j<3→w.cell? ⟨g,k*3+j,none⟩=(NM.enc ms[k])[j]?:=fun j hj=>by rw[hc (k*3+j) (by omega)];exact hf j hj
 have hr:=h.nds ms[k] (List.getElem_mem hk)
 have sm:=hr.sm
 have q1:=sm.plo
 have q2:=sm.phi
 have q3:=sm.nam
 have q4:=sm.len
 have hcap:ms[k].n.props.length≤ms[k].c:=owns_cap2 hr.own
 rw[List.getElem_map]
 refine⟨g,0,rfl,⟨?_,by unfold Wide;omega⟩,⟨?_,by omega⟩,ms[k].a,ms[k].c,?_,hcap,by unfold Fit;omega,prps_sl hr.own sm.prp⟩
 all_goals rw[Nat.zero_add]
 ·rw[show k*3=k*3+0 from rfl,h2 0 (by omega)];rfl
 ·rw[h2 1 (by omega)];rfl
 ·rw[h2 2 (by omega)];rfl
theorem infoNod:(Tryz.prog.info? 55).map (fun i=>(i.zero,i.size,i.bytes))=some (some (.agg #[.int .i64 0,.string (bs []),.slice none 0 0]),3,48):=by kernel_rfl
theorem infoPrp:(Tryz.prog.info? 89).map (fun i=>(i.zero,i.size,i.bytes))=some (some (.agg #[.string (bs []),.string (bs [])]),2,32):=by kernel_rfl
theorem gets_prps{w:World}{a:Option Addr}{ps:List Prp}(h:SlOf 2 RPrp w a ps):Gets w a ps.length 2 (ps.flatMap encP):=by
 refine⟨by rw[flatP_len],fun hn=>?_⟩
 cases ps with
 |nil=>simp at hn
 |cons p l=>
  obtain⟨b,o,e,_⟩:=h 0 (by simp)
  subst e
  refine⟨_,rfl,fun j u hu=>?_⟩
  have hj2:j<(p::l).length*2:=by
   have:=(List.getElem?_eq_some_iff.1 hu).1
   rwa [flatP_len] at this
  obtain⟨b2,o2,e3,c0,c1⟩:=h (j/2) (by omega)
  cases e3
  have e2:=flat_at encP 2 (fun _=>rfl) (p::l) (j/2) (j%2) (by omega) (Nat.mod_lt _ (by omega))
  rw[show j/2*2+j%2=j by omega,hu] at e2
  rw[Addr.add_lit]
  obtain q|q:j%2=0∨j%2=1:=by omega
  ·rw[q] at e2;simp[encP] at e2;rw[e2,←c0.1];congr 2;omega
  ·rw[q] at e2;simp[encP] at e2;rw[e2,←c1.1];congr 2;omega
def GivesTr(w:World)(ts:Tr)(e:Ending)(w':World):Prop:=∃v ms,e= .returned (.agg #[v])∧TrAt w.heap.size w' v ms∧ms.map NM.n=ts∧Gr w w'
theorem copied_tr(ts:Tr)(a:Option Addr)(cap:Nat)(w:World)(h:SlOf 3 RNod w a ts)(hs:∀n∈ts,SmN n)(hl:ts.length≤1000):
  Calls Tryz.prog 137 #[.agg #[.slice a ts.length cap]] w (GivesTr w ts):=by
 have H:=Lib.hid h
 have HS:=Lib.hid hs
 clear h hs
 obtain⟨i0,hi,hz0,hz1,hz2⟩:=info_parts infoNod
 obtain⟨j0,hj,hy0,hy1,hy2⟩:=info_parts infoPrp
 go_enter Tryz.func137,Tryz.ntmps137
 go_wp2_with fail
 have R1:=Lib.hid ((((Row.new w #[.slice a ts.length cap] 31).alloc (.cells #[.slice none 0 0] 31)).alloc (.cells #[.slice none 0 0] 31)))
 have R2:Hid (Row (((w.alloc (.cells #[.slice a ts.length cap] 31)).alloc (.cells #[.slice none 0 0] 31)).alloc (.cells #[.slice none 0 0] 31)) (w.heap.size+1) 31 [.slice none 0 0]):=Lib.hid (by
  have q:=(Row.new (w.alloc (.cells #[.slice a ts.length cap] 31)) #[.slice none 0 0] 31).alloc (.cells #[.slice none 0 0] 31)
  have e:(w.alloc (.cells #[.slice a ts.length cap] 31)).heap.size=w.heap.size+1:=by simp
  rw[e] at q;exact q)
 have R3:Hid (Row (((w.alloc (.cells #[.slice a ts.length cap] 31)).alloc (.cells #[.slice none 0 0] 31)).alloc (.cells #[.slice none 0 0] 31)) (w.heap.size+2) 31 [.slice none 0 0]):=Lib.hid (by
  have q:=Row.new ((w.alloc (.cells #[.slice a ts.length cap] 31)).alloc (.cells #[.slice none 0 0] 31)) #[.slice none 0 0] 31
  have e:((w.alloc (.cells #[.slice a ts.length cap] 31)).alloc (.cells #[.slice none 0 0] 31)).heap.size=w.heap.size+2:=by simp
  rw[e] at q;exact q)
 obtain⟨W,hW⟩:∃W:World,Hid (W=((w.alloc (.cells #[.slice a ts.length cap] 31)).alloc (.cells #[.slice none 0 0] 31)).alloc (.cells #[.slice none 0 0] 31)):=⟨_,Lib.hid rfl⟩
 have GW:Hid (Gr w W):=Lib.hid (by rw[hW.out];exact(((Gr.refl _).alloc _).alloc _).alloc _)
 rw[←hW.out] at R1 R2 R3 ⊢
 obtain⟨PB,hPB⟩:∃N:Nat,Hid (w.heap.size=N):=⟨_,Lib.hid rfl⟩
 have HPB:=Lib.hid hPB.out
 rw[hPB.out] at R1 R2 R3 ⊢
 clear hW hPB
 obtain⟨P3,hP3⟩:∃N:Nat,Hid (PB+2=N):=⟨_,Lib.hid rfl⟩
 have HP3:=Lib.hid hP3.out
 rw[hP3.out] at R3 ⊢
 obtain⟨P2,hP2⟩:∃N:Nat,Hid (PB+1=N):=⟨_,Lib.hid rfl⟩
 have HP2:=Lib.hid hP2.out
 rw[hP2.out] at R2 ⊢
 clear hP3 hP2
 go_loopw [9] (fun i wr=>∃(k:Nat) (v:Value) (ms:List NM),k≤ts.length∧i= .int .i64 k∧Row wr PB 31 [.slice a ts.length cap]∧Row wr P2 31 [.slice none 0 0]∧Row wr P3 31 [v]∧TrAt PB wr v ms∧ms.map NM.n=ts.take k∧Gr w wr) (fun i _=>ts.length-(intOf i).toNat)
 case atStart=>exact⟨0,_,[],Nat.zero_le _,rfl,R1.out,R2.out,R3.out,TrAt.nil _ _,rfl,GW.out⟩
 case round=>
  obtain⟨k,v,ms,hk,rfl,hr1,hr2,hr3,htr,hmap,hg⟩:=hrel
  obtain⟨va,vc,hv⟩:=owns_slice htr.own
  have S1:=Lib.hid hr1
  have S2:=Lib.hid hr2
  have S3:=Lib.hid hr3
  have TR:=Lib.hid htr
  have MP:=Lib.hid hmap
  have HG:=Lib.hid hg
  have ML:Hid (ms.length=k):=Lib.hid (by have:=congrArg List.length hmap;rw[List.length_map,List.length_take] at this;omega)
  clear hr1 hr2 hr3 htr hmap hg
  by_cases hlt:k<ts.length
  ·obtain⟨b,o,pa,pc,rfl,c0,c1,c2,hps,hpf,hw,hnl⟩:=nods_at (H.out.gr RNod.mono HG.out) k hlt
   have SN:=Lib.hid (HS.out _ (List.getElem_mem hlt))
   have TK:=Lib.hid (List.take_succ_eq_append_getElem hlt)
   obtain⟨n,hn⟩:∃n,ts[k]=n:=⟨_,rfl⟩
   rw[hn] at c0 c1 c2 hps SN TK
   have HPS:=Lib.hid hps
   have s4:=SN.out.len
   have hh:=has_of_cell c0
   have kk:(k:Int)<ts.length:=by omega
   obtain⟨WA,hWA⟩:∃W:World,Hid (W=wr.alloc (.cells #[.int .i64 n.parent,.string (bs n.name),.slice pa n.props.length pc] 55)):=⟨_,Lib.hid rfl⟩
   have BX:=Lib.hid (Row.new wr #[.int .i64 n.parent,.string (bs n.name),.slice pa n.props.length pc] 55)
   have GA:Hid (Gr wr WA):=Lib.hid (by rw[hWA.out];exact(Gr.refl _).alloc _)
   clear hn hps hpf hw hnl
   go_upto_region 5 with(fail)
   rw[←hWA.out] at BX ⊢
   obtain⟨PX,hPX⟩:∃N:Nat,Hid (wr.heap.size=N):=⟨_,Lib.hid rfl⟩
   rw[hPX.out] at BX ⊢
   have HPX:=Lib.hid hPX.out
   clear hWA hPX c0 c1 c2 hh
   have y2:=BX.out.cell 2 (by simp)
   have hyb:=has_of_cell y2
   have yf:=BX.out.free 2
   have GP:Hid (Gets (WA.alloc (.cells #[] 89)) pa n.props.length 2 (n.props.flatMap encP)):=Lib.hid (gets_prps (HPS.out.gr RPrp.mono (GA.out.alloc _)))
   go_upto_region 6 with(at_builtin;refine wpList_append_gets _ rfl _ _ 53 rfl WA.heap.size 89 j0 (.agg #[.string (bs []),.string (bs [])]) 2 32 Tryz.underlying53 hj hy0 hy1 hy2 rfl (by decide) (.slice (some ⟨WA.heap.size,0,none⟩) 0 0) 0 [] rfl (World.ownsRow_made WA #[] 0 (Nat.le_refl _) (by simp) rfl) pa n.props.length pc (n.props.flatMap encP) rfl GP.out (flatP_one _) (by unfold maxLen;omega) (by omega) (by simp) ?_;intro v5 w5 hown hgrow hloc;obtain⟨x5,z5,rfl⟩:=owns_slice hown;have O5:=Lib.hid hown;have G5:Hid (Gr WA w5):=Lib.hid (((Gr.refl WA).alloc _).grown hgrow (fun k e=>by cases e;exact Nat.le_refl _));have q2:=(BX.out.gr G5.out).cell 2 (by simp);have qf:=(BX.out.gr G5.out).free 2;have hq:=has_of_cell q2;clear hown hgrow hloc)
   clear q2 qf hq y2 hyb yf GP
   have B5:=Lib.hid ((BX.out.gr G5.out).set 2 (.slice x5 (0+n.props.length) z5))
   rw[Nat.zero_add] at O5 B5
   (try rw[Nat.zero_add])
   obtain⟨W6,hW6⟩:∃W:World,Hid (W=w5.setCell ⟨PX,2,none⟩ (.slice x5 n.props.length z5)):=⟨_,Lib.hid rfl⟩
   have G6:Hid (Gr wr W6):=Lib.hid (by rw[hW6.out];exact(GA.out.trans G5.out).setc (by rw[HPX.out];exact Nat.le_refl _))
   have ND:Hid (NdAt PB W6 ⟨n,x5,z5⟩):=Lib.hid (by
    refine⟨?_,SN.out⟩
    have h1:=owns_low (base':=PB) O5.out (by have h2:=HG.out.size;have h3:=GA.out.size;rw[HPB.out] at h2;omega)
    rw[List.nil_append] at h1
    rw[hW6.out]
    refine h1.kept (grownBy_set _ _ _ _) ?_
    cases hz:(Value.slice x5 n.props.length z5).ownBlock with
    |none=>exact .inl rfl
    |some g=>
     refine .inr (fun e=>?_)
     have h4:=owns_block O5.out g hz
     have h5:PX<WA.heap.size:=BX.out.has
     injection e with e
     omega)
   rw[←hW6.out] at B5 ⊢
   have T6:=Lib.hid (TR.out.gr G6.out)
   have U1:=Lib.hid (S1.out.gr G6.out)
   have U2:=Lib.hid (S2.out.gr G6.out)
   have U3:=Lib.hid (S3.out.gr G6.out)
   have HG6:=Lib.hid (HG.out.trans G6.out)
   have b0:W6.cell? ⟨PX,0,none⟩=some (.int .i64 n.parent):=B5.out.cell 0 (by simp)
   have b1:W6.cell? ⟨PX,1,none⟩=some (.string (bs n.name)):=B5.out.cell 1 (by simp)
   have b2:W6.cell? ⟨PX,2,none⟩=some (.slice x5 n.props.length z5):=B5.out.cell 2 (by simp)
   have hb:=has_of_cell b0
   have u0:=U3.out.cell 0 (by simp)
   have hu:=has_of_cell u0
   have OWX:=Lib.hid (T6.out.own.alloc (.cells #[.int .i64 n.parent,.string (bs n.name),.slice x5 n.props.length z5] 55))
   have NR:=Lib.hid (row_cells (Row.new W6 #[.int .i64 n.parent,.string (bs n.name),.slice x5 n.props.length z5] 55))
   have mlen:ms.length≤1000:=by have:=ML.out;omega
   clear hW6 G5 GA BX O5
   subst hv
   go_wp2_with (at_builtin;refine wpList_append_own _ rfl _ _ 29 rfl PB 55 i0 (.agg #[.int .i64 0,.string (bs []),.slice none 0 0]) 3 48 Tryz.underlying29 hi hz0 hz1 hz2 rfl (by decide) _ ms.length (ms.flatMap NM.enc) rfl OWX.out ⟨W6.heap.size,0,none⟩ 1 1 [.int .i64 n.parent,.string (bs n.name),.slice x5 n.props.length z5] rfl rfl NR.out (NM.enc_one ⟨n,x5,z5⟩) (by unfold maxLen;omega) (by omega) (by have:=HG6.out.size;rw[HPB.out] at this;simp;omega) ?_;intro v' wz hown' hgrow hnil;obtain⟨y5,k5,rfl⟩:=owns_slice hown';have HOz:=Lib.hid hown';have HGz:=Lib.hid hgrow;have S3z:=Lib.hid ((U3.out.alloc (.cells #[.int .i64 n.parent,.string (bs n.name),.slice x5 n.props.length z5] 55)).kept hgrow (((U3.out.alloc (.cells #[.int .i64 n.parent,.string (bs n.name),.slice x5 n.props.length z5] 55)).ty).ne OWX.out (by decide)));have q0:=S3z.out.cell 0 (by simp);have qf:=S3z.out.free 0;have hq:=has_of_cell q0;clear hown' hgrow hnil)
   go_roundw
   case rel=>
    have ga:Gr W6 (W6.alloc (.cells #[.int .i64 n.parent,.string (bs n.name),.slice x5 n.props.length z5] 55)):=(Gr.refl W6).alloc _
    have TN:=(T6.out.gr ga).snoc (m:=⟨n,x5,z5⟩) HGz.out HOz.out (ND.out.gr ga)
    have e1:=HP3.out
    have e2:=HP2.out
    refine⟨k+1,_,ms++ [⟨n,x5,z5⟩],by omega,by go_num,?_,?_,S3z.out.set 0 _,TN.box S3z.out.ty (by decide) (TN.ne_ty S3z.out.ty (by decide)),?_,?_⟩
    ·exact((U1.out.gr ga).kept HGz.out ((U1.out.gr ga).ty.ne OWX.out (by decide))).oth (by omega)
    ·exact((U2.out.gr ga).kept HGz.out ((U2.out.gr ga).ty.ne OWX.out (by decide))).oth (by omega)
    ·rw[List.map_append,MP.out,TK.out];rfl
    ·exact((HG6.out.trans ga).grown HGz.out (fun j e=>by rw[HPB.out];exact(owns_block OWX.out j e).1)).setc (by rw[HPB.out];omega)
   case measure=>simp[intOf];omega
  ·obtain rfl:k=ts.length:=by omega
   rw[List.take_length] at MP
   have u0:=S3.out.cell 0 (by simp)
   have hu:=has_of_cell u0
   have z0:=S2.out.cell 0 (by simp)
   have zf:=S2.out.free 0
   have hz:=has_of_cell z0
   subst hv
   go_wp2_with fail
   have RF:=Lib.hid (S2.out.set 0 (.slice va ms.length vc))
   have e2:=HP2.out
   have TF:Hid (TrAt PB (wr.setCell ⟨P2,0,none⟩ (.slice va ms.length vc)) (.slice va ms.length vc) ms):=Lib.hid (TR.out.box S2.out.ty (by decide) (TR.out.ne_ty S2.out.ty (by decide)))
   have GF:Hid (Gr w (wr.setCell ⟨P2,0,none⟩ (.slice va ms.length vc))):=Lib.hid (HG.out.setc (by rw[HPB.out];omega))
   obtain⟨W3,hW3⟩:∃W:World,Hid (W=wr.setCell ⟨P2,0,none⟩ (.slice va ms.length vc)):=⟨_,Lib.hid rfl⟩
   rw[←hW3.out] at RF TF GF ⊢
   have e0:W3.cell? ⟨P2,0,none⟩=some (.slice va ms.length vc):=RF.out.cell 0 (by simp)
   clear hW3 u0 hu z0 zf hz
   refine bodyPost_ret (v:= .agg #[.slice va ms.length vc]) (by simp[results,Tryz.results137,e0,go_sem]) rfl ?_
   exact⟨_,ms,rfl,by rw[HPB.out];exact TF.out,MP.out,GF.out⟩
end Go.Proofs.YtdjhnfopdlgliaaGreat
