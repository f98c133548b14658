/- Lemmas and contracts for the proof of LinkAnswers (several texts in one, printed by wip/tools/pack.py): LtH LtM LtO. -/
import Derived.Test.YtdjhnfopdlgliaaGreatLa1pA
import Derived.WalkMore
import Derived.Test.YtdjhnfopdlgliaaGreatLa1py
set_option maxRecDepth 100000
set_option maxHeartbeats 16000000
set_option linter.unusedVariables false
set_option linter.unusedSimpArgs false
namespace Go.Proofs.YtdjhnfopdlgliaaGreat
open Go.RowKit
open Classical
theorem owns_takeN{w:World}{base e size n c k:Nat}{a:Option Addr}{xs:List Value}(h:w.ownsRow base e size (.slice a n c) n xs)(hk:k≤n):w.ownsRow base e size (.slice a k c) k (xs.take (k*size)):=by
 have hks:k*size≤n*size:=Nat.mul_le_mul_right _ hk
 obtain⟨h0,⟨e1,hz⟩|⟨g',cap',cur,e1,hb,hg,hn,hm,hs,ht⟩⟩:=h
 ·simp only[Value.slice.injEq] at e1
  obtain⟨rfl,rfl,rfl⟩:=e1
  have:k=0:=by omega
  subst this
  refine⟨by rw[List.length_take];omega,.inl ⟨rfl,rfl⟩⟩
 ·simp only[Value.slice.injEq,true_and] at e1
  obtain⟨rfl,rfl⟩:=e1
  refine⟨by rw[List.length_take];omega,.inr ⟨g',_,cur,rfl,hb,hg,by omega,hm,hs,?_⟩⟩
  rw[←ht,List.take_take,Nat.min_eq_left hks]
theorem TrAt.take{base:Nat}{w:World}{a:Option Addr}{n c k:Nat}{ms:List NM}(h:TrAt base w (.slice a n c) ms)(hk:k<ms.length):TrAt base w (.slice a k c) (ms.take k):=by
 obtain rfl:=h.sl.1
 have e:(ms.take k).flatMap NM.enc=(ms.flatMap NM.enc).take (k*3):=by
  clear h
  induction ms generalizing k with
  |nil=>simp
  |cons m l ih=>
   cases k with
   |zero=>simp
   |succ k=>
    rw[List.take_succ_cons,List.flatMap_cons,List.flatMap_cons,ih (by simpa using hk),List.take_append,NM.enc_len,List.take_of_length_le (l:=m.enc) (by rw[NM.enc_len];omega),show(k+1)*3-3=k*3 by omega]
 refine⟨?_,fun m hm=>h.nds m (List.mem_of_mem_take hm)⟩
 have q:=owns_takeN h.own (Nat.le_of_lt hk)
 rw[List.length_take,Nat.min_eq_left (Nat.le_of_lt hk),e]
 exact q
theorem bent_any(ts:Tr)(a:Option Addr)(cap b len:Nat)(w:World)(h:SlOf 3 RNod w a ts)(hs:∀n∈ts,SmN n∧n.props.length≤900)(h0:0<ts.length)(hl:ts.length≤100)(ht:Tp w b len):
  Calls Tryz.prog 23 #[.pointer (some ⟨b,0,none⟩),.agg #[.slice a ts.length cap]] w (GivesBT w.heap.size b len w):=by
 have H:=Lib.hid h
 have HS:=Lib.hid (fun n hn=>(hs n hn).1)
 have HS9:=Lib.hid (fun n hn=>(hs n hn).2)
 have TP:=Lib.hid ht
 have hbw:b<w.heap.size:=ht.has
 obtain⟨P0,hP0⟩:∃P:Ending→World→Prop,P=GivesBT w.heap.size b len w:=⟨_,rfl⟩
 rw[←hP0]
 have HP0:=Lib.hid hP0
 clear h hs ht hP0
 obtain⟨i0,hi,hz0,hz1,hz2⟩:=info_parts infoNod
 obtain⟨j0,hj,hy0,hy1,hy2⟩:=info_parts infoPrp
 go_enter Tryz.func23,Tryz.ntmps23
 refine wp_cut 7 fun TT hT=>?_
 simp only[cutAt]
 go_wp2_with fail
 have R1:=Lib.hid ((((Row.new w #[.slice a ts.length cap] 31).alloc (.cells #[.slice none 0 0] 31)).alloc (.cells #[.slice none 0 0] 31)))
 have R2:Hid (Row (((w.alloc (.cells #[.slice a ts.length cap] 31)).alloc (.cells #[.slice none 0 0] 31)).alloc (.cells #[.slice none 0 0] 31)) (w.heap.size+1) 31 [.slice none 0 0]):=Lib.hid (by
  have q:=(Row.new (w.alloc (.cells #[.slice a ts.length cap] 31)) #[.slice none 0 0] 31).alloc (.cells #[.slice none 0 0] 31)
  have e:(w.alloc (.cells #[.slice a ts.length cap] 31)).heap.size=w.heap.size+1:=by simp
  rw[e] at q;exact q)
 have R3:Hid (Row (((w.alloc (.cells #[.slice a ts.length cap] 31)).alloc (.cells #[.slice none 0 0] 31)).alloc (.cells #[.slice none 0 0] 31)) (w.heap.size+2) 31 [.slice none 0 0]):=Lib.hid (by
  have q:=Row.new ((w.alloc (.cells #[.slice a ts.length cap] 31)).alloc (.cells #[.slice none 0 0] 31)) #[.slice none 0 0] 31
  have e:((w.alloc (.cells #[.slice a ts.length cap] 31)).alloc (.cells #[.slice none 0 0] 31)).heap.size=w.heap.size+2:=by simp
  rw[e] at q;exact q)
 obtain⟨W,hW⟩:∃W:World,Hid (W=((w.alloc (.cells #[.slice a ts.length cap] 31)).alloc (.cells #[.slice none 0 0] 31)).alloc (.cells #[.slice none 0 0] 31)):=⟨_,Lib.hid rfl⟩
 have GW:Hid (Gr w W):=Lib.hid (by rw[hW.out];exact(((Gr.refl _).alloc _).alloc _).alloc _)
 rw[←hW.out] at R1 R2 R3 ⊢
 obtain⟨PB,hPB⟩:∃N:Nat,Hid (w.heap.size=N):=⟨_,Lib.hid rfl⟩
 have HPB:=Lib.hid hPB.out
 rw[hPB.out] at R1 R2 R3 ⊢
 clear hW hPB
 obtain⟨P3,hP3⟩:∃N:Nat,Hid (PB+2=N):=⟨_,Lib.hid rfl⟩
 have HP3:=Lib.hid hP3.out
 rw[hP3.out] at R3 ⊢
 obtain⟨P2,hP2⟩:∃N:Nat,Hid (PB+1=N):=⟨_,Lib.hid rfl⟩
 have HP2:=Lib.hid hP2.out
 rw[hP2.out] at R2 ⊢
 clear hP3 hP2
 go_loopw [14] (fun i wr=>∃(k:Nat) (v:Value) (ms:List NM),k≤ts.length∧i= .int .i64 k∧Row wr PB 31 [.slice a ts.length cap]∧Row wr P2 31 [.slice none 0 0]∧Row wr P3 31 [v]∧TrAt PB wr v ms∧ms.map NM.n=ts.take k∧DjA ms∧Gr w wr) (fun i _=>ts.length-(intOf i).toNat)
 case atStart=>exact⟨0,_,[],Nat.zero_le _,rfl,R1.out,R2.out,R3.out,TrAt.nil _ _,rfl,List.Pairwise.nil,GW.out⟩
 case round=>
  obtain⟨k,v,ms,hk,rfl,hr1,hr2,hr3,htr,hmap,hdj,hg⟩:=hrel
  obtain⟨va,vc,hv⟩:=owns_slice htr.own
  have S1:=Lib.hid hr1
  have S2:=Lib.hid hr2
  have S3:=Lib.hid hr3
  have TR:=Lib.hid htr
  have MP:=Lib.hid hmap
  have HG:=Lib.hid hg
  have DJ:=Lib.hid hdj
  have ML:Hid (ms.length=k):=Lib.hid (by have:=congrArg List.length hmap;rw[List.length_map,List.length_take] at this;omega)
  clear hr1 hr2 hr3 htr hmap hdj hg
  by_cases hlt:k<ts.length
  ·obtain⟨xb,xo,pa,pc,rfl,c0,c1,c2,hps,hpf,hw,hnl⟩:=nods_at (H.out.gr RNod.mono HG.out) k hlt
   have SN:=Lib.hid (HS.out _ (List.getElem_mem hlt))
   have TK:=Lib.hid (List.take_succ_eq_append_getElem hlt)
   obtain⟨n,hn⟩:∃n,ts[k]=n:=⟨_,rfl⟩
   rw[hn] at c0 c1 c2 hps SN TK
   have HPS:=Lib.hid hps
   have s4:=SN.out.len
   have hh:=has_of_cell c0
   have kk:(k:Int)<ts.length:=by omega
   obtain⟨WA,hWA⟩:∃W:World,Hid (W=wr.alloc (.cells #[.int .i64 n.parent,.string (bs n.name),.slice pa n.props.length pc] 55)):=⟨_,Lib.hid rfl⟩
   have BX:=Lib.hid (Row.new wr #[.int .i64 n.parent,.string (bs n.name),.slice pa n.props.length pc] 55)
   have GA:Hid (Gr wr WA):=Lib.hid (by rw[hWA.out];exact(Gr.refl _).alloc _)
   clear hn hps hpf hw hnl
   go_upto_region 5 with(fail)
   rw[←hWA.out] at BX ⊢
   obtain⟨PX,hPX⟩:∃N:Nat,Hid (wr.heap.size=N):=⟨_,Lib.hid rfl⟩
   rw[hPX.out] at BX ⊢
   have HPX:=Lib.hid hPX.out
   clear hWA hPX c0 c1 c2 hh
   have y2:=BX.out.cell 2 (by simp)
   have hyb:=has_of_cell y2
   have yf:=BX.out.free 2
   have GP:Hid (Gets (WA.alloc (.cells #[] 89)) pa n.props.length 2 (n.props.flatMap encP)):=Lib.hid (gets_prps (HPS.out.gr RPrp.mono (GA.out.alloc _)))
   go_upto_region 6 with(at_builtin;refine wpList_append_gets _ rfl _ _ 53 rfl WA.heap.size 89 j0 (.agg #[.string (bs []),.string (bs [])]) 2 32 Tryz.underlying53 hj hy0 hy1 hy2 rfl (by decide) (.slice (some ⟨WA.heap.size,0,none⟩) 0 0) 0 [] rfl (World.ownsRow_made WA #[] 0 (Nat.le_refl _) (by simp) rfl) pa n.props.length pc (n.props.flatMap encP) rfl GP.out (flatP_one _) (by unfold maxLen;omega) (by omega) (by simp) ?_;intro v5 w5 hown hgrow hloc;obtain⟨x5,z5,rfl⟩:=owns_slice hown;have O5:=Lib.hid hown;have G5:Hid (Gr WA w5):=Lib.hid (((Gr.refl WA).alloc _).grown hgrow (fun k e=>by cases e;exact Nat.le_refl _));have q2:=(BX.out.gr G5.out).cell 2 (by simp);have qf:=(BX.out.gr G5.out).free 2;have hq:=has_of_cell q2;clear hown hgrow hloc)
   clear q2 qf hq y2 hyb yf GP
   have B5:=Lib.hid ((BX.out.gr G5.out).set 2 (.slice x5 (0+n.props.length) z5))
   rw[Nat.zero_add] at O5 B5
   (try rw[Nat.zero_add])
   obtain⟨W6,hW6⟩:∃W:World,Hid (W=w5.setCell ⟨PX,2,none⟩ (.slice x5 n.props.length z5)):=⟨_,Lib.hid rfl⟩
   have G6:Hid (Gr wr W6):=Lib.hid (by rw[hW6.out];exact(GA.out.trans G5.out).setc (by rw[HPX.out];exact Nat.le_refl _))
   have ND:Hid (NdAt PB W6 ⟨n,x5,z5⟩):=Lib.hid (by
    refine⟨?_,SN.out⟩
    have h1:=owns_low (base':=PB) O5.out (by have h2:=HG.out.size;have h3:=GA.out.size;rw[HPB.out] at h2;omega)
    rw[List.nil_append] at h1
    rw[hW6.out]
    refine h1.kept (grownBy_set _ _ _ _) ?_
    cases hz:(Value.slice x5 n.props.length z5).ownBlock with
    |none=>exact .inl rfl
    |some g=>
     refine .inr (fun e=>?_)
     have h4:=owns_block O5.out g hz
     have h5:PX<WA.heap.size:=BX.out.has
     injection e with e
     omega)
   rw[←hW6.out] at B5 ⊢
   have T6:=Lib.hid (TR.out.gr G6.out)
   have U1:=Lib.hid (S1.out.gr G6.out)
   have U2:=Lib.hid (S2.out.gr G6.out)
   have U3:=Lib.hid (S3.out.gr G6.out)
   have HG6:=Lib.hid (HG.out.trans G6.out)
   have b0:W6.cell? ⟨PX,0,none⟩=some (.int .i64 n.parent):=B5.out.cell 0 (by simp)
   have b1:W6.cell? ⟨PX,1,none⟩=some (.string (bs n.name)):=B5.out.cell 1 (by simp)
   have b2:W6.cell? ⟨PX,2,none⟩=some (.slice x5 n.props.length z5):=B5.out.cell 2 (by simp)
   have hb:=has_of_cell b0
   have u0:=U3.out.cell 0 (by simp)
   have hu:=has_of_cell u0
   have OWX:=Lib.hid (T6.out.own.alloc (.cells #[.int .i64 n.parent,.string (bs n.name),.slice x5 n.props.length z5] 55))
   have NR:=Lib.hid (row_cells (Row.new W6 #[.int .i64 n.parent,.string (bs n.name),.slice x5 n.props.length z5] 55))
   have mlen:ms.length≤1000:=by have:=ML.out;omega
   have XB:Hid (∀g:Addr,x5=some g→wr.heap.size≤g.block):=Lib.hid (fun g e=>by
    subst e
    have:=(owns_block O5.out g.block rfl).1
    have:=GA.out.size
    omega)
   clear hW6 G5 GA BX O5
   subst hv
   go_wp2_with (at_builtin;refine wpList_append_own _ rfl _ _ 29 rfl PB 55 i0 (.agg #[.int .i64 0,.string (bs []),.slice none 0 0]) 3 48 Tryz.underlying29 hi hz0 hz1 hz2 rfl (by decide) _ ms.length (ms.flatMap NM.enc) rfl OWX.out ⟨W6.heap.size,0,none⟩ 1 1 [.int .i64 n.parent,.string (bs n.name),.slice x5 n.props.length z5] rfl rfl NR.out (NM.enc_one ⟨n,x5,z5⟩) (by unfold maxLen;omega) (by omega) (by have:=HG6.out.size;rw[HPB.out] at this;simp;omega) ?_;intro v' wz hown' hgrow hnil;obtain⟨y5,k5,rfl⟩:=owns_slice hown';have HOz:=Lib.hid hown';have HGz:=Lib.hid hgrow;have S3z:=Lib.hid ((U3.out.alloc (.cells #[.int .i64 n.parent,.string (bs n.name),.slice x5 n.props.length z5] 55)).kept hgrow (((U3.out.alloc (.cells #[.int .i64 n.parent,.string (bs n.name),.slice x5 n.props.length z5] 55)).ty).ne OWX.out (by decide)));have q0:=S3z.out.cell 0 (by simp);have qf:=S3z.out.free 0;have hq:=has_of_cell q0;clear hown' hgrow hnil)
   go_roundw
   case rel=>
    have ga:Gr W6 (W6.alloc (.cells #[.int .i64 n.parent,.string (bs n.name),.slice x5 n.props.length z5] 55)):=(Gr.refl W6).alloc _
    have TN:=(T6.out.gr ga).snoc (m:=⟨n,x5,z5⟩) HGz.out HOz.out (ND.out.gr ga)
    have e1:=HP3.out
    have e2:=HP2.out
    refine⟨k+1,_,ms++ [⟨n,x5,z5⟩],by omega,by go_num,?_,?_,S3z.out.set 0 _,TN.box S3z.out.ty (by decide) (TN.ne_ty S3z.out.ty (by decide)),?_,?_,?_⟩
    ·exact((U1.out.gr ga).kept HGz.out ((U1.out.gr ga).ty.ne OWX.out (by decide))).oth (by omega)
    ·exact((U2.out.gr ga).kept HGz.out ((U2.out.gr ga).ty.ne OWX.out (by decide))).oth (by omega)
    ·rw[List.map_append,MP.out,TK.out];rfl
    ·refine DJ.out.snoc (fun m' hm' g1 g2 e3 e4=>?_)
     have h1:=(owns_block (TR.out.nds m' hm').own g1.block (by rw[e3];rfl)).2
     have h2:=XB.out g2 e4
     omega
    ·exact((HG6.out.trans ga).grown HGz.out (fun j e=>by rw[HPB.out];exact(owns_block OWX.out j e).1)).setc (by rw[HPB.out];omega)
   case measure=>simp[intOf];omega
  ·obtain rfl:k=ts.length:=by omega
   rw[List.take_length] at MP
   obtain⟨m,hm⟩:∃N:Nat,Hid (ms.length=N):=⟨_,Lib.hid rfl⟩
   have hm0:0<m:=by have:=ML.out;have:=hm.out;omega
   have hm1:m≤100:=by have:=ML.out;have:=hm.out;omega
   rw[hm.out] at hv
   subst hv
   obtain⟨g,cg,e1,_,_,_⟩:=owns_cell TR.out.own (by rw[hm.out];exact hm0)
   simp only[Value.slice.injEq] at e1
   obtain⟨rfl, -,rfl⟩:=e1
   have BI0:Hid (BI b len P2 P3 g m vc w wr ms):=Lib.hid ⟨by rw[HPB.out];exact TR.out,hm.out,hm1,S3.out,S2.out,Mv.of_gr TP.out HG.out,TP.out.gr HG.out,⟨hbw,by rw[HPB.out];have:=HP2.out;omega,by rw[HPB.out];have:=HP3.out;omega,by have:=HP2.out;have:=HP3.out;omega⟩,DJ.out,fun x hx=>HS9.out x.n (by rw[←MP.out];exact List.mem_map_of_mem hx)⟩
   have u0:=S3.out.cell 0 (by simp)
   simp only[List.getElem_cons_zero] at u0
   have hu:=has_of_cell u0
   have mb:((m:Int)==0)=false:=by rw[beq_eq_false_iff_ne];omega
   clear H HS HS9 GW R1 R2 R3 S1 S2 S3 TR DJ MP hk hlt
   go_wp2_with fail
   refine(nM_any wr b len (m:Int) BI0.out.tp (by omega) (by omega)).mono ?_
   rintro e w3 ⟨k,rfl,⟨k0,k1⟩,hmv⟩
   obtain⟨k,rfl⟩:=Int.eq_ofNat_of_zero_le k0
   have BI1:=Lib.hid (BI0.out.move hmv)
   have KM:Hid (k<m):=Lib.hid (by omega)
   have km:k<m:=by omega
   clear hmv BI0 k0 k1 u0 hu
   have u0:=BI1.out.r5.cell 0 (by simp)
   simp only[List.getElem_cons_zero] at u0
   have hu:=has_of_cell u0
   go_wp2_with fail
   refine(nM_any w3 b len 9 BI1.out.tp (by omega) (by omega)).mono ?_
   rintro e w4 ⟨y,rfl,⟨y0,y1⟩,hmv⟩
   obtain⟨y,rfl⟩:=Int.eq_ofNat_of_zero_le y0
   have BI2:=Lib.hid (BI1.out.move hmv)
   have hkm:k<ms.length:=by rw[hm.out];exact KM.out
   have hy:y<9:=by omega
   clear hmv BI1 y0 y1 u0 hu
   obtain⟨c0,c1,c2,cf,hnd⟩:=BI2.out.at hkm
   have hg:=has_of_cell c0
   have u0:=BI2.out.r5.cell 0 (by simp)
   simp only[List.getElem_cons_zero] at u0
   have hu:=has_of_cell u0
   have ND:=Lib.hid hnd
   have NS:=hnd.sm
   clear hnd
   have cf0:=cf (k*3)
   have cf1:=cf (k*3+1)
   have cf2:=cf (k*3+2)
   clear cf
   have hbs:b<w4.heap.size:=BI2.out.tp.has
   obtain rfl|rfl|rfl|rfl|rfl|rfl|rfl|rfl|rfl:y=0∨y=1∨y=2∨y=3∨y=4∨y=5∨y=6∨y=7∨y=8:=by omega
   ·go_wp2_with fail
    refine(pickNew_any w4 b len BI2.out.tp _ rfl _ 5 [-1,0,(k:Int),(k:Int)-1,200] (fun x=> -1≤x∧x≤1000) rfl rfl (by omega) (by omega) (by intro x hx;simp only[List.mem_cons,List.not_mem_nil,or_false] at hx;omega)).mono ?_
    rintro e w5 ⟨x,rfl,⟨x1,x2⟩,hmv⟩
    have BI3:=Lib.hid (BI2.out.move hmv)
    clear hmv c0 c1 c2 hg cf0 cf1 cf2 u0 hu
    obtain⟨c0,c1,c2,cf,hnd⟩:=BI3.out.at hkm
    have hg:=has_of_cell c0
    have cf0:=cf (k*3)
    have BF:=Lib.hid (BI3.out.fin hkm (o:=0) (v:= .int .i64 x) (m':=⟨{ms[k].n with parent:=x},ms[k].a,ms[k].c⟩) (by decide) rfl ⟨hnd.own,⟨x1,x2,NS.nam,NS.len,NS.prp⟩⟩)
    clear c1 c2 cf hnd
    go_wp2_with fail
    exact wp_at hT (by kernel_rfl) (bentEnd HP0 BF.out)
   ·have RS:=Lib.hid (Row.new w4 #[.string ⟨#[]⟩,.string ⟨#[97]⟩,.string ⟨#[122]⟩,.string ⟨#[49]⟩,.string ⟨#[97,32,98]⟩,.string ⟨#[35,97]⟩,.string ⟨#[97,50,51,52,53,54,55,56,57,48,49,50,51,52,53,54,55,56,57,48,49,50,51,52,53,54,55,56,57,48,49]⟩,.string ⟨#[97,50,51,52,53,54,55,56,57,48,49,50,51,52,53,54,55,56,57,48,49,50,51,52,53,54,55,56,57,48,49,50]⟩] 9)
    obtain⟨w9,hw9⟩:∃W:World,Hid (W=w4.alloc (.cells #[.string ⟨#[]⟩,.string ⟨#[97]⟩,.string ⟨#[122]⟩,.string ⟨#[49]⟩,.string ⟨#[97,32,98]⟩,.string ⟨#[35,97]⟩,.string ⟨#[97,50,51,52,53,54,55,56,57,48,49,50,51,52,53,54,55,56,57,48,49,50,51,52,53,54,55,56,57,48,49]⟩,.string ⟨#[97,50,51,52,53,54,55,56,57,48,49,50,51,52,53,54,55,56,57,48,49,50,51,52,53,54,55,56,57,48,49,50]⟩] 9)):=⟨_,Lib.hid rfl⟩
    have g9:Gr w4 w9:=by rw[hw9.out];exact(Gr.refl _).alloc _
    have BI9:=Lib.hid (BI2.out.gr g9)
    go_wp2_with fail
    rw[←hw9.out] at RS ⊢
    obtain⟨SB,hSB⟩:∃N:Nat,Hid (w4.heap.size=N):=⟨_,Lib.hid rfl⟩
    have SNB:Hid (SB≠b):=Lib.hid (by rw[←hSB.out];omega)
    rw[hSB.out] at RS ⊢
    clear hw9 g9 hSB
    refine(nM_any w9 b len 8 BI9.out.tp (by omega) (by omega)).mono ?_
    rintro e w5 ⟨x,rfl,⟨x1,x2⟩,hmv⟩
    obtain⟨x,rfl⟩:=Int.eq_ofNat_of_zero_le x1
    have BI3:=Lib.hid (BI9.out.move hmv)
    have RS5:=hmv.row RS.out SNB.out
    have x8:(x:Int)<8:=by omega
    obtain⟨s,hs,hsl⟩:∃s:St,w5.cell? ⟨SB,x,none⟩=some (.string (bs s))∧s.length≤1000:=by
     have hx8:x<8:=by omega
     have q:=RS5.cell x (by simpa using hx8)
     obtain rfl|rfl|rfl|rfl|rfl|rfl|rfl|rfl:x=0∨x=1∨x=2∨x=3∨x=4∨x=5∨x=6∨x=7:=by omega
     all_goals exact⟨_,q,by simp⟩
    clear hmv c0 c1 c2 hg cf0 cf1 cf2 u0 hu RS5
    obtain⟨c0,c1,c2,cf,hnd⟩:=BI3.out.at hkm
    have hg:=has_of_cell c0
    have hss:=has_of_cell hs
    have cf1:=cf (k*3+1)
    have BF:=Lib.hid (BI3.out.fin hkm (o:=1) (v:= .string (bs s)) (m':=⟨{ms[k].n with name:=s},ms[k].a,ms[k].c⟩) (by decide) rfl ⟨hnd.own,⟨NS.plo,NS.phi,hsl,NS.len,NS.prp⟩⟩)
    clear c0 c2 cf hnd
    go_wp2_with fail
    exact wp_at hT (by kernel_rfl) (bentEnd HP0 BF.out)
   ·go_upto_region 19 with(fail)
    refine wp_code_eq (c:=Code.region 19 (regIn 19 Tryz.f23) true) (by kernel_rfl) (bt19 (hk:=hkm) BI2.out ?_)
    intros
    rename_i wx hbd
    unfold bt19A
    go_wp2_with fail
    exact wp_at hT (by kernel_rfl) (bentEnd HP0 hbd)
   ·go_upto_region 21 with(fail)
    refine wp_code_eq (c:=Code.region 21 (regIn 21 Tryz.f23) true) (by kernel_rfl) (bt21 (hk:=hkm) BI2.out ?_)
    intros
    rename_i wx hbd
    unfold bt21A
    go_wp2_with fail
    exact wp_at hT (by kernel_rfl) (bentEnd HP0 hbd)
   ·go_upto_region 23 with(fail)
    refine wp_code_eq (c:=Code.region 23 (regIn 23 Tryz.f23) true) (by kernel_rfl) (bt23 (hk:=hkm) BI2.out KM.out ?_)
    intros
    rename_i wx hbd
    unfold bt23A
    go_wp2_with fail
    exact wp_at hT (by kernel_rfl) (bentEnd HP0 hbd)
   ·have ML:=BI2.out.ml
    have OT:=BI2.out.tr.own
    rw[ML] at OT
    have OTA:=Lib.hid (OT.alloc (.cells #[.int .i64 (k:Int),.string ⟨#[122,122]⟩,.slice none 0 0] 55))
    have NR:=Lib.hid (row_cells (Row.new w4 #[.int .i64 (k:Int),.string ⟨#[122,122]⟩,.slice none 0 0] 55))
    have BIA:=Lib.hid (BI2.out.gr ((Gr.refl w4).alloc (.cells #[.int .i64 (k:Int),.string ⟨#[122,122]⟩,.slice none 0 0] 55)))
    have NZ:Hid (NdAt w.heap.size (w4.alloc (.cells #[.int .i64 (k:Int),.string ⟨#[122,122]⟩,.slice none 0 0] 55)) ⟨⟨(k:Int),[122,122],[]⟩,none,0⟩):=Lib.hid ⟨World.ownsRow_nil _ _ _ _,⟨by show(-1:Int)≤(k:Int);omega,by show(k:Int)≤1000;omega,by simp,by simp,by simp⟩⟩
    have SZ:=BI2.out.mv.size
    have MLH:=Lib.hid ML
    clear ML OT c0 c1 c2 hg cf0 cf1 cf2
    go_wp2_with (at_builtin;refine wpList_append_own _ rfl _ _ 29 rfl w.heap.size 55 i0 (.agg #[.int .i64 0,.string (bs []),.slice none 0 0]) 3 48 Tryz.underlying29 hi hz0 hz1 hz2 rfl (by decide) (.slice (some ⟨g,0,none⟩) m vc) m (ms.flatMap NM.enc) rfl OTA.out ⟨w4.heap.size,0,none⟩ 1 1 [.int .i64 (k:Int),.string ⟨#[122,122]⟩,.slice none 0 0] rfl rfl NR.out (NM.enc_one ⟨⟨(k:Int),[122,122],[]⟩,none,0⟩) (by unfold maxLen;omega) (by omega) (by simp;omega) ?_;intro v' wz hown' hgrow hnil;obtain⟨y5,k5,rfl⟩:=owns_slice hown';have BZ:=Lib.hid (BIA.out.nodN NZ.out hgrow (by rw[MLH.out];exact hown'));have q0:=BZ.out.r5.cell 0 (by simp);have qf:=BZ.out.r5.free 0;have hq:=has_of_cell q0;clear hown' hgrow hnil)
    exact wp_at hT (by kernel_rfl) (bentEnd HP0 BZ.out.fin)
   ·go_wp2_with fail
    refine(pickNew_any w4 b len BI2.out.tp _ rfl _ 2 [256,257] (fun x=>256≤x∧x≤257) rfl rfl (by omega) (by omega) (by intro x hx;simp only[List.mem_cons,List.not_mem_nil,or_false] at hx;omega)).mono ?_
    rintro e w5 ⟨x,rfl,⟨x1,x2⟩,hmv⟩
    obtain⟨z,rfl⟩:=Int.eq_ofNat_of_zero_le (show 0≤x by omega)
    have BI3:=Lib.hid (BI2.out.move hmv)
    have ZH:Hid (z≤1000):=Lib.hid (by omega)
    clear hmv c0 c1 c2 hg cf0 cf1 cf2 u0 hu
    have hmk:=run_make_row' (P:=Tryz.prog) 112 5 (.int .u8 0) 1 Tryz.underlying112 infoU8 rfl .i64 .i64 z (by omega) (by omega)
    go_upto_region 28 with(fail)
    have RQ:=Lib.hid (Row.new w5 (madeCells #[.int .u8 0] z) 5)
    rw[made_one] at RQ
    obtain⟨w6,hw6⟩:∃W:World,Hid (W=w5.alloc (.cells (madeCells #[.int .u8 0] z) 5)):=⟨_,Lib.hid rfl⟩
    have g6:Gr w5 w6:=by rw[hw6.out];exact(Gr.refl _).alloc _
    rw[←hw6.out] at RQ ⊢
    have BI4:=Lib.hid (BI3.out.gr g6)
    clear hmk
    refine wp_code_eq (c:=Code.region 28 (regIn 28 Tryz.f23) true) (by kernel_rfl) (bt28 (hk:=hkm) BI4.out ZH.out RQ.out ?_)
    intros
    rename_i wx hbd
    unfold bt28A
    go_wp2_with fail
    exact wp_at hT (by kernel_rfl) (bentEnd HP0 hbd)
   ·have BDN:Hid (BD b len P2 P3 w w4):=Lib.hid ⟨_,ms,BI2.out.tr,by rw[hm.out];omega,BI2.out.r5,BI2.out.r4,BI2.out.mv,BI2.out.bb.2.1,BI2.out.bb.2.2.2⟩
    obtain⟨pl,hpl⟩:∃N:Nat,Hid (ms[k].n.props.length=N):=⟨_,Lib.hid rfl⟩
    rw[hpl.out] at c2
    by_cases hp1:1<pl
    ·obtain⟨p,q,l,hpq⟩:∃p q l,ms[k].n.props=p::q::l:=by
      have:=hpl.out
      cases hz:ms[k].n.props with
      |nil=>rw[hz] at this;simp at this;omega
      |cons p l=>
       cases l with
       |nil=>rw[hz] at this;simp at this;omega
       |cons q l=>exact⟨p,q,l,rfl⟩
     have hno:=ND.out.own
     obtain⟨pb,pc,ea,hpc,_,hcell⟩:=owns_cell hno (by rw[hpl.out];omega)
     simp only[Value.slice.injEq] at ea
     have EA:=Lib.hid ea.1
     rw[EA.out] at c2
     have PFH:Hid (∀W,Gr w4 W→∀o,W.frozen? ⟨pb,o,none⟩=false):=Lib.hid (fun W hW o=>by have q:=Gr.owns hno hW;rw[ea.1] at q;exact q.frozenAt _)
     rw[hpq] at hcell
     have d0:w4.cell? ⟨pb,0,none⟩=some (.string (bs p.name)):=by rw[hcell 0 (by simp)];rfl
     have d1:w4.cell? ⟨pb,1,none⟩=some (.string (bs p.val)):=by rw[hcell 1 (by simp;omega)];rfl
     have d2:w4.cell? ⟨pb,2,none⟩=some (.string (bs q.name)):=by rw[hcell 2 (by simp)];rfl
     have d3:w4.cell? ⟨pb,3,none⟩=some (.string (bs q.val)):=by rw[hcell 3 (by simp;omega)];rfl
     have hd:=has_of_cell d0
     have HPQ:=Lib.hid hpq
     have pp1:(1:Int)<(pl:Int):=by omega
     have pb1:decide ((1:Int)<(pl:Int))=true:=decide_eq_true pp1
     have BF:=fun W (hW:Gr w4 W)=>(BI2.out.gr hW).swap hkm HPQ.out EA.out
     have BF:=Lib.hid BF
     clear hno hpc hcell hpq ea u0 hu c0 c1 cf0 cf1 cf2
     go_upto_region 31 with(fail)
     refine wp_code_eq (c:=Code.region 31 (regIn 31 Tryz.f23) true) (by kernel_rfl) (bt31 (pb:=pb) (pl:=pl) c2 d0 d1 d2 d3 (fun W hW o=>PFH.out W hW o) hp1 ?_)
     intros
     rename_i wx hbd
     unfold bt31A
     obtain⟨W0,hg0,rfl⟩:=hbd
     have BFF:=Lib.hid (BF.out W0 hg0)
     go_wp2_with fail
     exact wp_at hT (by kernel_rfl) (bentEnd HP0 BFF.out)
    ·have pp1:¬(1:Int)<(pl:Int):=by omega
     have pb1:decide ((1:Int)<(pl:Int))=false:=decide_eq_false pp1
     go_wp2_with fail
     exact wp_at hT (by kernel_rfl) (bentEnd HP0 BDN.out)
   ·have OT:=BI2.out.tr
    have kmi:(k:Int)≤(m:Int):=by omega
    have BN8:Hid (BN b len P2 P3 g m vc w w4 (.slice (some ⟨g,0,none⟩) k vc)):=Lib.hid ⟨⟨ms.take k,OT.take hkm,by rw[List.length_take,hm.out];omega⟩,BI2.out.r5,BI2.out.r4,BI2.out.mv,BI2.out.bb⟩
    have BF:=Lib.hid BN8.out.fin
    have uf:=BI2.out.r5.free 0
    have OC:=owns_cap2 (by have:=OT.own;rw[hm.out] at this;exact this)
    have kci:(k:Int)≤(vc:Int):=by omega
    have kc:k≤vc:=by omega
    have mci:(m:Int)≤(vc:Int):=by omega
    clear OT c0 c1 c2 hg cf0 cf1 cf2
    go_wp2_with fail
    exact wp_at hT (by kernel_rfl) (bentEnd HP0 BF.out)
theorem VL.bent{ts:Tr}(h:VL ts):∀n∈ts,SmN n∧n.props.length≤900:=fun n hn=>by
 obtain⟨k,hk,rfl⟩:=List.getElem_of_mem hn
 have q:=h.smN hk
 rw[nd_get hk] at q
 obtain⟨q4,q5⟩:=h.asc hk
 rw[nd_get hk] at q4
 exact⟨q,by omega⟩
def Fin5(wr:World)(b len B:Nat)(vR vX:Value)(w:World):Prop:=∃vB ms,Row w B 31 [vR,vX,vB]∧TrAt wr.heap.size w vB ms∧ms.length≤101∧Mv b len wr w∧wr.heap.size≤B
structure TM where
 a:Option Addr
 c:Nat
 ts:Tr
def TM.v(t:TM):Value:= .slice t.a t.ts.length t.c
def encQ(p:St×St):List Value:= [.string (bs p.1),.string (bs p.2)]
def la5F(wr:World)(b len P6 P12 nR cR n vc bX:Nat)(aR va:Option Addr)(ms:List NM)(t47 t48 t49 t50 t51 t52 t53 t54:Value)(d:Array Bool)(w:World):Prop:=
 (Mv b len wr w)∧(d.getD 0 false=true→t47= .agg #[.slice aR nR cR])∧
 (d.getD 1 false=true→t48= .agg #[.slice va n vc])∧
 (d.getD 2 false=true→t49= .pointer (some ⟨b,0,none⟩))∧
 (d.getD 3 false=true→t50= .agg #[.slice va n vc])∧
 (d.getD 4 false=true→(∃xa xn xc ms,t51= .agg #[.slice xa xn xc]∧(d.getD 5 false=false→TrAt wr.heap.size w (.slice xa xn xc) ms)∧ms.length≤101))∧
 (d.getD 5 false=true→(d.getD 4 false=true∧∃B,t52= .slice (some ⟨B,0,none⟩) 3 3∧Fin5 wr b len B (.slice aR nR cR) (.slice va n vc) w))∧
 (d.getD 6 false=true→t53= .int .i64 3)∧
 (d.getD 7 false=true→t54= .int .i64 0)
def la5A(b P6 P12:Nat)(t47 t48 t49 t50 t51 t52 t53 t54 s0 s1 s2 s3 s4 s5 s7 s8 s9 s10 s13 s14 s15 s16 s17 s18 s19 s20 s21 s22 s23 s24 s25 s26 s27 s28 s29 s30 s31 s32 s33 s34 s35 s36 s37 s38 s39 s40 s41 s42 s43 s44 s45 s46 s55 s56 s57 s58 s59 s60 s61 s62 s63 s64 s65 s66 s67 s68 s69 s70 s71 s72 s73 s74 s75 s76 s77 s78 s79 s80 s81 s82 s83 s84 s85 s86 s87 s88 s89 s90 s91 s92 s93 s94 s95 s96 s97 s98 s99 s100 s101 s102 s103 s104 s105 s106 s107 s108 s109 s110 s111 s112 s113 s114 s115 s116 s117 s118 s119 s120 s121 s122 s123 s124 s125 s126 s127 s128 s129 s130 s131 s132 s133 s134 s135 s136 s137 s138 s139 s140 s141 s142 s143 s144 s145 s146 s147 s148 s149 s150 s151 s152 s153 s154 s155 s156 s157 s158 s159 s160 s161 s162 s163 s164 s165 s166 s167 s168 s169 s170 s171 s172 s173 s174 s175 s176 s177 s178 s179 s180 s181 s182 s183 s184 s185 s186 s187 s188 s189 s190 s191 s192 s193 s194 s195 s196 s197 s198 s199 s200 s201 s202 s203 s204 s205 s206 s207 s208 s209 s210 s211 s212 s213 s214 s215 s216 s217 s218 s219 s220 s221 s222 s223 s224 s225 s226 s227 s228 s229:Value):Act:={tmps:= #[s0,s1,s2,s3,s4,s5,.pointer (some ⟨P6,0,none⟩),s7,s8,s9,s10,.pointer (some ⟨b,0,none⟩),.pointer (some ⟨P12,0,none⟩),s13,s14,s15,s16,s17,s18,s19,s20,s21,s22,s23,s24,s25,s26,s27,s28,s29,s30,s31,s32,s33,s34,s35,s36,s37,s38,s39,s40,s41,s42,s43,s44,s45,s46,t47,t48,t49,t50,t51,t52,t53,t54,s55,s56,s57,s58,s59,s60,s61,s62,s63,s64,s65,s66,s67,s68,s69,s70,s71,s72,s73,s74,s75,s76,s77,s78,s79,s80,s81,s82,s83,s84,s85,s86,s87,s88,s89,s90,s91,s92,s93,s94,s95,s96,s97,s98,s99,s100,s101,s102,s103,s104,s105,s106,s107,s108,s109,s110,s111,s112,s113,s114,s115,s116,s117,s118,s119,s120,s121,s122,s123,s124,s125,s126,s127,s128,s129,s130,s131,s132,s133,s134,s135,s136,s137,s138,s139,s140,s141,s142,s143,s144,s145,s146,s147,s148,s149,s150,s151,s152,s153,s154,s155,s156,s157,s158,s159,s160,s161,s162,s163,s164,s165,s166,s167,s168,s169,s170,s171,s172,s173,s174,s175,s176,s177,s178,s179,s180,s181,s182,s183,s184,s185,s186,s187,s188,s189,s190,s191,s192,s193,s194,s195,s196,s197,s198,s199,s200,s201,s202,s203,s204,s205,s206,s207,s208,s209,s210,s211,s212,s213,s214,s215,s216,s217,s218,s219,s220,s221,s222,s223,s224,s225,s226,s227,s228,s229],defers:= []}
theorem la5{Q:Exit→Act→World→Prop}{wr:World}{b len P6 P12 nR cR n vc bX:Nat}{aR va:Option Addr}{ms:List NM}{s0 s1 s2 s3 s4 s5 s7 s8 s9 s10 s13 s14 s15 s16 s17 s18 s19 s20 s21 s22 s23 s24 s25 s26 s27 s28 s29 s30 s31 s32 s33 s34 s35 s36 s37 s38 s39 s40 s41 s42 s43 s44 s45 s46 s47 s48 s49 s50 s51 s52 s53 s54 s55 s56 s57 s58 s59 s60 s61 s62 s63 s64 s65 s66 s67 s68 s69 s70 s71 s72 s73 s74 s75 s76 s77 s78 s79 s80 s81 s82 s83 s84 s85 s86 s87 s88 s89 s90 s91 s92 s93 s94 s95 s96 s97 s98 s99 s100 s101 s102 s103 s104 s105 s106 s107 s108 s109 s110 s111 s112 s113 s114 s115 s116 s117 s118 s119 s120 s121 s122 s123 s124 s125 s126 s127 s128 s129 s130 s131 s132 s133 s134 s135 s136 s137 s138 s139 s140 s141 s142 s143 s144 s145 s146 s147 s148 s149 s150 s151 s152 s153 s154 s155 s156 s157 s158 s159 s160 s161 s162 s163 s164 s165 s166 s167 s168 s169 s170 s171 s172 s173 s174 s175 s176 s177 s178 s179 s180 s181 s182 s183 s184 s185 s186 s187 s188 s189 s190 s191 s192 s193 s194 s195 s196 s197 s198 s199 s200 s201 s202 s203 s204 s205 s206 s207 s208 s209 s210 s211 s212 s213 s214 s215 s216 s217 s218 s219 s220 s221 s222 s223 s224 s225 s226 s227 s228 s229:Value}(htp:Tp wr b len)(h6:Row wr P6 31 [.slice aR nR cR])(h12:Row wr P12 31 [.slice va n vc])(hn6:P6≠b)(hn12:P12≠b)(htr:TrAt bX wr (.slice va n vc) ms)(hbb:b<bX)(hvl:VL (ms.map NM.n))(hml:ms.length=n)(hn0:0<n)(hn1:n≤100)
  (h':∀B t47 t48 t49 t50 t51 wx,Fin5 wr b len B (.slice aR nR cR) (.slice va n vc) wx→Q .normal (la5A b P6 P12 t47 t48 t49 t50 t51 (.slice (some ⟨B,0,none⟩) 3 3) (.int .i64 3) (.int .i64 0) s0 s1 s2 s3 s4 s5 s7 s8 s9 s10 s13 s14 s15 s16 s17 s18 s19 s20 s21 s22 s23 s24 s25 s26 s27 s28 s29 s30 s31 s32 s33 s34 s35 s36 s37 s38 s39 s40 s41 s42 s43 s44 s45 s46 s55 s56 s57 s58 s59 s60 s61 s62 s63 s64 s65 s66 s67 s68 s69 s70 s71 s72 s73 s74 s75 s76 s77 s78 s79 s80 s81 s82 s83 s84 s85 s86 s87 s88 s89 s90 s91 s92 s93 s94 s95 s96 s97 s98 s99 s100 s101 s102 s103 s104 s105 s106 s107 s108 s109 s110 s111 s112 s113 s114 s115 s116 s117 s118 s119 s120 s121 s122 s123 s124 s125 s126 s127 s128 s129 s130 s131 s132 s133 s134 s135 s136 s137 s138 s139 s140 s141 s142 s143 s144 s145 s146 s147 s148 s149 s150 s151 s152 s153 s154 s155 s156 s157 s158 s159 s160 s161 s162 s163 s164 s165 s166 s167 s168 s169 s170 s171 s172 s173 s174 s175 s176 s177 s178 s179 s180 s181 s182 s183 s184 s185 s186 s187 s188 s189 s190 s191 s192 s193 s194 s195 s196 s197 s198 s199 s200 s201 s202 s203 s204 s205 s206 s207 s208 s209 s210 s211 s212 s213 s214 s215 s216 s217 s218 s219 s220 s221 s222 s223 s224 s225 s226 s227 s228 s229) wx):
  (Code.region 5 (regIn 5 Tryz.f6) true).wp Tryz.prog Q {tmps:= #[s0,s1,s2,s3,s4,s5,.pointer (some ⟨P6,0,none⟩),s7,s8,s9,s10,.pointer (some ⟨b,0,none⟩),.pointer (some ⟨P12,0,none⟩),s13,s14,s15,s16,s17,s18,s19,s20,s21,s22,s23,s24,s25,s26,s27,s28,s29,s30,s31,s32,s33,s34,s35,s36,s37,s38,s39,s40,s41,s42,s43,s44,s45,s46,s47,s48,s49,s50,s51,s52,s53,s54,s55,s56,s57,s58,s59,s60,s61,s62,s63,s64,s65,s66,s67,s68,s69,s70,s71,s72,s73,s74,s75,s76,s77,s78,s79,s80,s81,s82,s83,s84,s85,s86,s87,s88,s89,s90,s91,s92,s93,s94,s95,s96,s97,s98,s99,s100,s101,s102,s103,s104,s105,s106,s107,s108,s109,s110,s111,s112,s113,s114,s115,s116,s117,s118,s119,s120,s121,s122,s123,s124,s125,s126,s127,s128,s129,s130,s131,s132,s133,s134,s135,s136,s137,s138,s139,s140,s141,s142,s143,s144,s145,s146,s147,s148,s149,s150,s151,s152,s153,s154,s155,s156,s157,s158,s159,s160,s161,s162,s163,s164,s165,s166,s167,s168,s169,s170,s171,s172,s173,s174,s175,s176,s177,s178,s179,s180,s181,s182,s183,s184,s185,s186,s187,s188,s189,s190,s191,s192,s193,s194,s195,s196,s197,s198,s199,s200,s201,s202,s203,s204,s205,s206,s207,s208,s209,s210,s211,s212,s213,s214,s215,s216,s217,s218,s219,s220,s221,s222,s223,s224,s225,s226,s227,s228,s229],defers:= []} wr:=by
 have HTP:=PLift.up htp
 have HBW:=PLift.up htp.has
 have HR6:=PLift.up h6
 have HR12:=PLift.up h12
 have HN6:=PLift.up hn6
 have HN12:=PLift.up hn12
 have HTR:=PLift.up htr
 have HBB:=PLift.up hbb
 have HVL:=PLift.up hvl
 have HML:=PLift.up hml
 have HN0:=PLift.up hn0
 have HN1:=PLift.up hn1
 clear htp h6 h12 hn6 hn12 htr hbb hvl hml hn0 hn1
 simp only[regIn,Tryz.f6,regOps,Option.bind_some,Option.getD_some,Nat.beq,cond_true,cond_false]
 refine wp_region_steps (fun done a w=>∃t47 t48 t49 t50 t51 t52 t53 t54,a=la5A b P6 P12 t47 t48 t49 t50 t51 t52 t53 t54 s0 s1 s2 s3 s4 s5 s7 s8 s9 s10 s13 s14 s15 s16 s17 s18 s19 s20 s21 s22 s23 s24 s25 s26 s27 s28 s29 s30 s31 s32 s33 s34 s35 s36 s37 s38 s39 s40 s41 s42 s43 s44 s45 s46 s55 s56 s57 s58 s59 s60 s61 s62 s63 s64 s65 s66 s67 s68 s69 s70 s71 s72 s73 s74 s75 s76 s77 s78 s79 s80 s81 s82 s83 s84 s85 s86 s87 s88 s89 s90 s91 s92 s93 s94 s95 s96 s97 s98 s99 s100 s101 s102 s103 s104 s105 s106 s107 s108 s109 s110 s111 s112 s113 s114 s115 s116 s117 s118 s119 s120 s121 s122 s123 s124 s125 s126 s127 s128 s129 s130 s131 s132 s133 s134 s135 s136 s137 s138 s139 s140 s141 s142 s143 s144 s145 s146 s147 s148 s149 s150 s151 s152 s153 s154 s155 s156 s157 s158 s159 s160 s161 s162 s163 s164 s165 s166 s167 s168 s169 s170 s171 s172 s173 s174 s175 s176 s177 s178 s179 s180 s181 s182 s183 s184 s185 s186 s187 s188 s189 s190 s191 s192 s193 s194 s195 s196 s197 s198 s199 s200 s201 s202 s203 s204 s205 s206 s207 s208 s209 s210 s211 s212 s213 s214 s215 s216 s217 s218 s219 s220 s221 s222 s223 s224 s225 s226 s227 s228 s229∧la5F wr b len P6 P12 nR cR n vc bX aR va ms t47 t48 t49 t50 t51 t52 t53 t54 done w) (by kernel_rfl) (by kernel_rfl) ?_ ⟨?_,?_,?_,?_,?_,?_,?_,?_,trivial⟩ ?_
 ·exact⟨s47,s48,s49,s50,s51,s52,s53,s54,rfl,Mv.of_gr HTP.down (Gr.refl _).drew,fun q=>absurd q (by decide),fun q=>absurd q (by decide),fun q=>absurd q (by decide),fun q=>absurd q (by decide),fun q=>absurd q (by decide),fun q=>absurd q (by decide),fun q=>absurd q (by decide),fun q=>absurd q (by decide)⟩
 ·rintro done a w hsz hnot hdep ⟨t47,t48,t49,t50,t51,t52,t53,t54,rfl,gw,f0,f1,f2,f3,f4,f5,f6,f7⟩ K hK
  have hn:¬done.getD 0 false=true:=by rw[getD_both hnot];decide
  have x6:w.cell? ⟨P6,0,none⟩=some (.slice aR nR cR):=(gw.row HR6.down HN6.down).cell 0 (by simp)
  have ch:=has_of_cell x6
  have HK:=PLift.up hK
  clear hK
  simp only[la5A]
  go_simp
  refine HK.down _ _ ⟨_,_,_,_,_,_,_,_,rfl,gw,fun _=>rfl,kp f1,kp f2,kp f3,fun q=>(let⟨xa,xn,xc,ms,e,h1,h2⟩:=f4 (done_old q (by decide));⟨xa,xn,xc,ms,e,fun q2=>h1 (by rw[getD_set_ne false (by decide)] at q2;exact q2),h2⟩),fun q=>⟨getD_set_true (f5 (done_old q (by decide))).1,(f5 (done_old q (by decide))).2⟩,kp f6,kp f7⟩
 ·rintro done a w hsz hnot hdep ⟨t47,t48,t49,t50,t51,t52,t53,t54,rfl,gw,f0,f1,f2,f3,f4,f5,f6,f7⟩ K hK
  have hn:¬done.getD 1 false=true:=by rw[getD_both hnot];decide
  have x12:w.cell? ⟨P12,0,none⟩=some (.slice va n vc):=(gw.row HR12.down HN12.down).cell 0 (by simp)
  have ch:=has_of_cell x12
  have HK:=PLift.up hK
  clear hK
  simp only[la5A]
  go_simp
  refine HK.down _ _ ⟨_,_,_,_,_,_,_,_,rfl,gw,kp f0,fun _=>rfl,kp f2,kp f3,fun q=>(let⟨xa,xn,xc,ms,e,h1,h2⟩:=f4 (done_old q (by decide));⟨xa,xn,xc,ms,e,fun q2=>h1 (by rw[getD_set_ne false (by decide)] at q2;exact q2),h2⟩),fun q=>⟨getD_set_true (f5 (done_old q (by decide))).1,(f5 (done_old q (by decide))).2⟩,kp f6,kp f7⟩
 ·rintro done a w hsz hnot hdep ⟨t47,t48,t49,t50,t51,t52,t53,t54,rfl,gw,f0,f1,f2,f3,f4,f5,f6,f7⟩ K hK
  have hn:¬done.getD 2 false=true:=by rw[getD_both hnot];decide
  have HK:=PLift.up hK
  clear hK
  simp only[la5A]
  go_simp
  refine HK.down _ _ ⟨_,_,_,_,_,_,_,_,rfl,gw,kp f0,kp f1,fun _=>rfl,kp f3,fun q=>(let⟨xa,xn,xc,ms,e,h1,h2⟩:=f4 (done_old q (by decide));⟨xa,xn,xc,ms,e,fun q2=>h1 (by rw[getD_set_ne false (by decide)] at q2;exact q2),h2⟩),fun q=>⟨getD_set_true (f5 (done_old q (by decide))).1,(f5 (done_old q (by decide))).2⟩,kp f6,kp f7⟩
 ·rintro done a w hsz hnot hdep ⟨t47,t48,t49,t50,t51,t52,t53,t54,rfl,gw,f0,f1,f2,f3,f4,f5,f6,f7⟩ K hK
  have hn:¬done.getD 3 false=true:=by rw[getD_both hnot];decide
  have x12:w.cell? ⟨P12,0,none⟩=some (.slice va n vc):=(gw.row HR12.down HN12.down).cell 0 (by simp)
  have ch:=has_of_cell x12
  have HK:=PLift.up hK
  clear hK
  simp only[la5A]
  go_simp
  refine HK.down _ _ ⟨_,_,_,_,_,_,_,_,rfl,gw,kp f0,kp f1,kp f2,fun _=>rfl,fun q=>(let⟨xa,xn,xc,ms,e,h1,h2⟩:=f4 (done_old q (by decide));⟨xa,xn,xc,ms,e,fun q2=>h1 (by rw[getD_set_ne false (by decide)] at q2;exact q2),h2⟩),fun q=>⟨getD_set_true (f5 (done_old q (by decide))).1,(f5 (done_old q (by decide))).2⟩,kp f6,kp f7⟩
 ·rintro done a w hsz hnot hdep ⟨t47,t48,t49,t50,t51,t52,t53,t54,rfl,gw,f0,f1,f2,f3,f4,f5,f6,f7⟩ K hK
  have hn:¬done.getD 4 false=true:=by rw[getD_both hnot];decide
  have d2:=hdep 2 (by kernel_rfl)
  have d3:=hdep 3 (by kernel_rfl)
  obtain rfl:=f2 d2
  obtain rfl:=f3 d3
  have GW:=PLift.up gw
  have TW:=PLift.up (HTR.down.mv HBB.down gw)
  have TPW:=PLift.up (gw.tp HTP.down)
  have GSZ:=PLift.up gw.size
  have HK:=PLift.up hK
  clear hK d2 d3
  simp only[la5A]
  go_simp
  have CB:=bent_any (ms.map NM.n) va vc b len w TW.down.sl.2 HVL.down.bent (by rw[List.length_map,HML.down];exact HN0.down) (by rw[List.length_map,HML.down];exact HN1.down) TPW.down
  rw[List.length_map,HML.down] at CB
  refine CB.mono ?_
  rintro e w2 ⟨v,mb,rfl,htr,hml,hm⟩
  obtain⟨xa,xc,rfl⟩:=owns_slice htr.own
  (try go_simp)
  refine HK.down _ _ ⟨_,_,_,_,_,_,_,_,rfl,GW.down.trans HBW.down hm,kp f0,kp f1,kp f2,kp f3,?_,fun q=>absurd (f5 (done_old q (by decide))).1 hn,kp f6,kp f7⟩
  exact fun _=>⟨xa,mb.length,xc,mb,rfl,fun _=>htr.low GSZ.down,hml⟩
 ·rintro done a w hsz hnot hdep ⟨t47,t48,t49,t50,t51,t52,t53,t54,rfl,gw,f0,f1,f2,f3,f4,f5,f6,f7⟩ K hK
  have hn:¬done.getD 5 false=true:=by rw[getD_both hnot];decide
  have d0:=hdep 0 (by kernel_rfl)
  have d1:=hdep 1 (by kernel_rfl)
  have d4:=hdep 4 (by kernel_rfl)
  obtain rfl:=f0 d0
  obtain rfl:=f1 d1
  obtain⟨xa,xn,xc,ms,rfl,h1,h2⟩:=f4 d4
  have H1:=PLift.up (h1 (getD_both hnot))
  have H2:=PLift.up h2
  have GW:=PLift.up gw
  have GSZ:=PLift.up gw.size
  clear h1 h2
  have HK:=PLift.up hK
  clear hK d0 d1
  simp only[la5A]
  go_simp
  refine HK.down _ _ ⟨_,_,_,_,_,_,_,_,rfl,GW.down.gr ((Gr.refl _).alloc _),kp f0,kp f1,kp f2,kp f3,fun _=>⟨xa,xn,xc,ms,rfl,fun q2=>absurd q2 (by rw[getD_set_same (by rw[hsz];decide)];decide),H2.down⟩,?_,kp f6,kp f7⟩
  exact fun _=>⟨getD_set_true d4,_,rfl,_,ms,Row.new w #[.slice aR nR cR,.slice va n vc,.slice xa xn xc] _,H1.down.gr ((Gr.refl _).alloc _),H2.down,GW.down.gr ((Gr.refl _).alloc _),GSZ.down⟩
 ·rintro done a w hsz hnot hdep ⟨t47,t48,t49,t50,t51,t52,t53,t54,rfl,gw,f0,f1,f2,f3,f4,f5,f6,f7⟩ K hK
  have hn:¬done.getD 6 false=true:=by rw[getD_both hnot];decide
  have d5:=hdep 5 (by kernel_rfl)
  obtain⟨d4,B,rfl,h5⟩:=f5 d5
  have H5:=PLift.up h5
  clear h5
  have HK:=PLift.up hK
  clear hK
  simp only[la5A]
  go_simp
  refine HK.down _ _ ⟨_,_,_,_,_,_,_,_,rfl,gw,kp f0,kp f1,kp f2,kp f3,fun q=>(let⟨xa,xn,xc,ms,e,h1,h2⟩:=f4 (done_old q (by decide));⟨xa,xn,xc,ms,e,fun q2=>h1 (by rw[getD_set_ne false (by decide)] at q2;exact q2),h2⟩),fun _=>⟨getD_set_true d4,B,rfl,H5.down⟩,?_,kp f7⟩
  exact fun _=>rfl
 ·rintro done a w hsz hnot hdep ⟨t47,t48,t49,t50,t51,t52,t53,t54,rfl,gw,f0,f1,f2,f3,f4,f5,f6,f7⟩ K hK
  have hn:¬done.getD 7 false=true:=by rw[getD_both hnot];decide
  have HK:=PLift.up hK
  clear hK
  simp only[la5A]
  go_simp
  refine HK.down _ _ ⟨_,_,_,_,_,_,_,_,rfl,gw,kp f0,kp f1,kp f2,kp f3,fun q=>(let⟨xa,xn,xc,ms,e,h1,h2⟩:=f4 (done_old q (by decide));⟨xa,xn,xc,ms,e,fun q2=>h1 (by rw[getD_set_ne false (by decide)] at q2;exact q2),h2⟩),fun q=>⟨getD_set_true (f5 (done_old q (by decide))).1,(f5 (done_old q (by decide))).2⟩,kp f6,fun _=>rfl⟩
 ·rintro done a w hall ⟨t47,t48,t49,t50,t51,t52,t53,t54,rfl,gw,f0,f1,f2,f3,f4,f5,f6,f7⟩
  obtain⟨_,B,rfl,h5⟩:=f5 (hall 5 (by decide))
  obtain rfl:=f6 (hall 6 (by decide))
  obtain rfl:=f7 (hall 7 (by decide))
  exact h' B _ _ _ _ _ w h5
theorem an4{Q:Exit→Act→World→Prop}{s0 s1 s2 s3 s4 s5 s6 s7 s8 s9 s10 s11 s12 s13 s15 s17 s18 s19 s20 s21 s22 s23 s24 s25 s26 s27 s28 s29 s30 s31 s32 s33 s34 s35 s36 s37 s38 s39 s40 s41 s42 s43 s44 s45 s46 s47 s48 s49 s50 s51 s52 s53 s54 s55 s56 s57 s58 s59 s60 s61 s62 s63 s64 s65 s66 s67 s68 s69 s70 s71 s72 s73 s74 s78 s79 s80 s81 s82 s83 s84 s85 s86 s87 s88 s89 s90 s91 s92 s93 s94 s95 s96 s97 s98 s99 s100 s101 s102 s103 s104 s105 s106 s107 s108 s109 s110 s111 s112 s113 s114 s115 s116 s117 s118 s119 s120 s121 s122 s123 s124 s125 s126 s127 s128 s129 s130 s131 s132 s133 s134 s135 s136 s137 s138 s139 s140 s141 s142 s143 s144 s145 s146 s147 s148 s149 s150 s151 s152 s153 s154 s155 s156 s157 s158 s159 s160 s161 s162 s163 s164 s165 s166 s167 s168 s169 s170 s171 s172 s173 s174 s175 s176 s177 s178 s179 s180 s181 s182 s183 s184 s185 s186 s187 s188 s189 s190 s191 s192 s193 s194 s195 s196 s197 s198 s199 s200 s201 s202 s203 s204 s205 s206 s207 s208 s209 s210 s211 s212 s213 s214 s215 s216 s217 s218 s219 s220 s221 s222 s223 s224 s225 s226 s227 s228 s229:Value}{W12:World}{P14 P16 PK tl tc:Nat}{ta:Option Addr}{ts:Tr}{q1 q2:St}{node k2:Int}
  (RX14:Hid (Row W12 P14 31 [.slice ta tl tc])) (RX16:Hid (Row W12 P16 62 [.string (bs q1),.string (bs q2)])) (RK:Hid (Row W12 PK 3 (nums [node,k2]))) (SLT:Hid (∀W,Gr W12 W→SlOf 3 RNod W ta ts)) (htl:Hid (ts.length=tl)) (T400:Hid (ts.length≤400))
  (h:∀(t10 t18 t19 t20 t21 t22 t23 t24 t25 t26 t78 t79 t80 t81 t82 t83 t84 t85 t86 t87 t88 t89 t90 t91 t92 t93 t94 t95 t96 t97 t98 t99 t100 t101 t102 t103 t104 t105 t106 t107 t108 t109 t110 t111 t112 t113 t114 t115 t116 t117 t118 t119 t120 t121 t122 t123 t124 t125 t126 t127 t128 t129 t130 t131 t132 t133 t134 t135 t136 t137 t138 t139 t140 t141:Value) (wx:World),Gr W12 wx→Q (.exit 4) {tmps:= #[s0,s1,s2,s3,s4,s5,s6,s7,s8,s9,t10,s11,s12,s13,.pointer (some ⟨P14,0,none⟩),s15,.pointer (some ⟨P16,0,none⟩),s17,t18,t19,t20,t21,t22,t23,t24,t25,t26,s27,s28,s29,s30,s31,s32,s33,s34,s35,s36,s37,s38,s39,s40,s41,s42,s43,s44,s45,s46,s47,s48,s49,s50,s51,s52,s53,s54,s55,s56,s57,s58,s59,s60,s61,s62,s63,s64,s65,s66,s67,s68,s69,s70,s71,s72,s73,s74,.slice (some ⟨PK,0,none⟩) 2 2,.int .i64 2,.int .i64 2,t78,t79,t80,t81,t82,t83,t84,t85,t86,t87,t88,t89,t90,t91,t92,t93,t94,t95,t96,t97,t98,t99,t100,t101,t102,t103,t104,t105,t106,t107,t108,t109,t110,t111,t112,t113,t114,t115,t116,t117,t118,t119,t120,t121,t122,t123,t124,t125,t126,t127,t128,t129,t130,t131,t132,t133,t134,t135,t136,t137,t138,t139,t140,t141,s142,s143,s144,s145,s146,s147,s148,s149,s150,s151,s152,s153,s154,s155,s156,s157,s158,s159,s160,s161,s162,s163,s164,s165,s166,s167,s168,s169,s170,s171,s172,s173,s174,s175,s176,s177,s178,s179,s180,s181,s182,s183,s184,s185,s186,s187,s188,s189,s190,s191,s192,s193,s194,s195,s196,s197,s198,s199,s200,s201,s202,s203,s204,s205,s206,s207,s208,s209,s210,s211,s212,s213,s214,s215,s216,s217,s218,s219,s220,s221,s222,s223,s224,s225,s226,s227,s228,s229],defers:= []} wx):
  (codeIn 4 Tryz.f6).wp Tryz.prog Q {tmps:= #[s0,s1,s2,s3,s4,s5,s6,s7,s8,s9,s10,s11,s12,s13,.pointer (some ⟨P14,0,none⟩),s15,.pointer (some ⟨P16,0,none⟩),s17,s18,s19,s20,s21,s22,s23,s24,s25,s26,s27,s28,s29,s30,s31,s32,s33,s34,s35,s36,s37,s38,s39,s40,s41,s42,s43,s44,s45,s46,s47,s48,s49,s50,s51,s52,s53,s54,s55,s56,s57,s58,s59,s60,s61,s62,s63,s64,s65,s66,s67,s68,s69,s70,s71,s72,s73,s74,.slice (some ⟨PK,0,none⟩) 2 2,.int .i64 2,.int .i64 0,s78,s79,s80,s81,s82,s83,s84,s85,s86,s87,s88,s89,s90,s91,s92,s93,s94,s95,s96,s97,s98,s99,s100,s101,s102,s103,s104,s105,s106,s107,s108,s109,s110,s111,s112,s113,s114,s115,s116,s117,s118,s119,s120,s121,s122,s123,s124,s125,s126,s127,s128,s129,s130,s131,s132,s133,s134,s135,s136,s137,s138,s139,s140,s141,s142,s143,s144,s145,s146,s147,s148,s149,s150,s151,s152,s153,s154,s155,s156,s157,s158,s159,s160,s161,s162,s163,s164,s165,s166,s167,s168,s169,s170,s171,s172,s173,s174,s175,s176,s177,s178,s179,s180,s181,s182,s183,s184,s185,s186,s187,s188,s189,s190,s191,s192,s193,s194,s195,s196,s197,s198,s199,s200,s201,s202,s203,s204,s205,s206,s207,s208,s209,s210,s211,s212,s213,s214,s215,s216,s217,s218,s219,s220,s221,s222,s223,s224,s225,s226,s227,s228,s229],defers:= []} W12:=by
 have HQ:=PLift.up h
 clear h
 simp only[codeIn,Tryz.f6,codeOf,Option.bind_some,Option.getD_some,Nat.beq,cond_true,cond_false]
 go_loopw [77] (fun i wr=>∃j:Nat,j≤2∧i= .int .i64 (j:Int)∧Gr W12 wr) (fun i _=>2-(intOf i).toNat)
 case atStart=>exact⟨0,Nat.zero_le _,rfl,Gr.refl _⟩
 case round=>
  obtain⟨j,hj,rfl,hg⟩:=hrel
  have HG:=Lib.hid hg
  clear hg
  by_cases hl2:j<2
  ·have j3:(j:Int)<2:=by omega
   have HJ:=Lib.hid hl2
   obtain⟨kk,hk⟩:∃kk:Int,wr.cell? ⟨PK,j,none⟩=some (.int .i64 kk):=by
    have q:=RK.out.gr HG.out
    obtain rfl|rfl:j=0∨j=1:=by omega
    ·exact⟨_,q.cell 0 (by simp[nums])⟩
    ·exact⟨_,q.cell 1 (by simp[nums])⟩
   have hk':=has_of_cell hk
   clear hl2 hj
   have C1:=Lib.hid (fun W (hW:Gr W12 W)=>(by have q:=(OfE_any ts ta tc kk q1 q2 W (SLT.out W hW) (by have:=T400.out;omega)).mono (fun e w' h=>h.uni);rw[htl.out] at q;exact q:Calls Tryz.prog 9 #[.agg #[.slice ta tl tc],.int .i64 kk,.string (bs q1),.string (bs q2)] W (GL W (errK (ofE ts kk q1 q2)) (valK (ofE ts kk q1 q2)))))
   have C2:=Lib.hid (fun W (hW:Gr W12 W)=>(by have q:=(rOfE_any ts ta tc kk q1 q2 W (SLT.out W hW) (by have:=T400.out;omega)).mono (fun e w' h=>h.uni);rw[htl.out] at q;exact q:Calls Tryz.prog 26 #[.agg #[.slice ta tl tc],.int .i64 kk,.string (bs q1),.string (bs q2)] W (GL W (errK (ofE ts kk q1 q2)) (valK (ofE ts kk q1 q2)))))
   have C3:=Lib.hid (fun W (hW:Gr W12 W)=>(by have q:=(consPE_any ts ta tc kk q1 q2 W (SLT.out W hW) (by have:=T400.out;omega)).mono (fun e w' h=>h.uni);rw[htl.out] at q;exact q:Calls Tryz.prog 16 #[.agg #[.slice ta tl tc],.int .i64 kk,.string (bs q1),.string (bs q2)] W (GI W (errK (consE ts kk q1 q2)) (valZ (consE ts kk q1 q2)))))
   have C4:=Lib.hid (fun W (hW:Gr W12 W)=>(by have q:=(rConsE_any ts ta tc kk q1 q2 W (SLT.out W hW) (by have:=T400.out;omega)).mono (fun e w' h=>h.uni);rw[htl.out] at q;exact q:Calls Tryz.prog 27 #[.agg #[.slice ta tl tc],.int .i64 kk,.string (bs q1),.string (bs q2)] W (GI W (errK (consE ts kk q1 q2)) (valZ (consE ts kk q1 q2)))))
   have F1:=Lib.hid (ofE_few ts kk q1 q2)
   have F3:=Lib.hid (consE_few ts kk q1 q2)
   obtain⟨e1,he1⟩:∃z,errK (ofE ts kk q1 q2)=z:=⟨_,rfl⟩
   obtain⟨L1,hL1⟩:∃z,valK (ofE ts kk q1 q2)=z:=⟨_,rfl⟩
   rw[he1,hL1] at C1 C2
   rw[hL1] at F1
   clear he1 hL1
   obtain⟨e3,he3⟩:∃z,errK (consE ts kk q1 q2)=z:=⟨_,rfl⟩
   obtain⟨L3,hL3⟩:∃z,valZ (consE ts kk q1 q2)=z:=⟨_,rfl⟩
   rw[he3,hL3] at C3 C4
   rw[hL3] at F3
   clear he3 hL3
   have x14:=(RX14.out.gr HG.out).cell 0 (by simp)
   have x16:=(RX16.out.gr HG.out).cell 0 (by simp)
   have y16:=(RX16.out.gr HG.out).cell 1 (by simp)
   simp only[List.getElem_cons_zero,List.getElem_cons_succ] at x14 x16 y16
   have hx14:=has_of_cell x14
   have hx16:=has_of_cell x16
   go_wp2_with fail
   refine(C1.out _ HG.out).mono ?_
   rintro e w1 ⟨v1,l1,rfl,hlk,how,hlr,hgr⟩
   have G1:=Lib.hid (HG.out.trans hgr)
   have K1:=Lib.hid (And.intro hlk (And.intro how hlr))
   have S1:=Lib.hid hgr
   clear hlk how hlr hgr x14 x16 y16 hx14 hx16
   have x14:=(RX14.out.gr G1.out).cell 0 (by simp)
   have x16:=(RX16.out.gr G1.out).cell 0 (by simp)
   have y16:=(RX16.out.gr G1.out).cell 1 (by simp)
   simp only[List.getElem_cons_zero,List.getElem_cons_succ] at x14 x16 y16
   have hx14:=has_of_cell x14
   have hx16:=has_of_cell x16
   go_wp2_with fail
   refine(C2.out _ G1.out).mono ?_
   rintro e w2 ⟨v2,l2,rfl,hlk,how,hlr,hgr⟩
   have G2:=Lib.hid (G1.out.trans hgr)
   have K2:=Lib.hid (And.intro hlk (And.intro how hlr))
   have S2:=Lib.hid hgr
   clear hlk how hlr hgr x14 x16 y16 hx14 hx16
   have x14:=(RX14.out.gr G2.out).cell 0 (by simp)
   have x16:=(RX16.out.gr G2.out).cell 0 (by simp)
   have y16:=(RX16.out.gr G2.out).cell 1 (by simp)
   simp only[List.getElem_cons_zero,List.getElem_cons_succ] at x14 x16 y16
   have hx14:=has_of_cell x14
   have hx16:=has_of_cell x16
   go_wp2_with fail
   refine(C3.out _ G2.out).mono ?_
   rintro e w3 ⟨v3,rfl,how,hwd,hgr⟩
   have G3:=Lib.hid (G2.out.trans hgr)
   have K3:=Lib.hid (And.intro how hwd)
   have S3:=Lib.hid hgr
   clear how hwd hgr x14 x16 y16 hx14 hx16
   have x14:=(RX14.out.gr G3.out).cell 0 (by simp)
   have x16:=(RX16.out.gr G3.out).cell 0 (by simp)
   have y16:=(RX16.out.gr G3.out).cell 1 (by simp)
   simp only[List.getElem_cons_zero,List.getElem_cons_succ] at x14 x16 y16
   have hx14:=has_of_cell x14
   have hx16:=has_of_cell x16
   go_wp2_with fail
   refine(C4.out _ G3.out).mono ?_
   rintro e w4 ⟨v4,rfl,how,hwd,hgr⟩
   have G4:=Lib.hid (G3.out.trans hgr)
   have K4:=Lib.hid (And.intro how hwd)
   have S4:=Lib.hid hgr
   clear how hwd hgr x14 x16 y16 hx14 hx16
   go_wp2_with fail
   refine(sameL (Gr.owns K1.out.2.1 (((S2.out.trans S3.out).trans S4.out).trans (by repeat(first|with_reducible exact Gr.refl _|with_reducible refine Gr.xt _ _ ?_|with_reducible refine Gr.drew ?_|with_reducible refine Gr.drewN _ ?_|with_reducible refine Gr.alloc _ ?_)))) (K1.out.2.2.gr (((S2.out.trans S3.out).trans S4.out).trans (by repeat(first|with_reducible exact Gr.refl _|with_reducible refine Gr.xt _ _ ?_|with_reducible refine Gr.drew ?_|with_reducible refine Gr.drewN _ ?_|with_reducible refine Gr.alloc _ ?_)))) K1.out.1 (Gr.owns K2.out.2.1 ((S3.out.trans S4.out).trans (by repeat(first|with_reducible exact Gr.refl _|with_reducible refine Gr.xt _ _ ?_|with_reducible refine Gr.drew ?_|with_reducible refine Gr.drewN _ ?_|with_reducible refine Gr.alloc _ ?_)))) (K2.out.2.2.gr ((S3.out.trans S4.out).trans (by repeat(first|with_reducible exact Gr.refl _|with_reducible refine Gr.xt _ _ ?_|with_reducible refine Gr.drew ?_|with_reducible refine Gr.drewN _ ?_|with_reducible refine Gr.alloc _ ?_)))) K2.out.1 (by have:=F1.out;omega)).mono ?_
   rintro e w5 ⟨rfl,hg5⟩
   have S5:=Lib.hid hg5
   clear hg5
   go_wp2_with fail
   refine(sameI (Gr.owns K3.out.1 (S4.out.trans S5.out)) (Gr.owns K4.out.1 ((Gr.refl _).trans S5.out)) K3.out.2 (by have:=F3.out;omega)).mono ?_
   rintro e w6 ⟨rfl,hg6⟩
   have G6:=Lib.hid ((G4.out.trans S5.out).trans hg6)
   clear hg6
   go_wp2_with fail
   go_roundw
   case rel=>exact⟨j+1,by have:=HJ.out;omega,by go_num,G6.out⟩
   case measure=>simp[intOf];have:=HJ.out;omega
  ·obtain rfl:j=2:=by omega
   go_wp2_with fail
   exact HQ.down _ _ _ _ _ _ _ _ _ _ _ _ _ _ _ _ _ _ _ _ _ _ _ _ _ _ _ _ _ _ _ _ _ _ _ _ _ _ _ _ _ _ _ _ _ _ _ _ _ _ _ _ _ _ _ _ _ _ _ _ _ _ _ _ _ _ _ _ _ _ _ _ _ _ _ HG.out
end Go.Proofs.YtdjhnfopdlgliaaGreat
