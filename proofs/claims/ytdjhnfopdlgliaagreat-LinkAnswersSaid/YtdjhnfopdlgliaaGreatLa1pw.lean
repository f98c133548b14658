/- Lemmas and contracts for the proof of LinkAnswers (several texts in one, printed by wip/tools/pack.py): LsM LqG LqI LsN. -/
import Derived.Test.YtdjhnfopdlgliaaGreatLa1pv
import Derived.Test.YtdjhnfopdlgliaaGreatLa1pp
import Derived.WalkMore
import Derived.Test.YtdjhnfopdlgliaaGreatLa1pu
set_option maxRecDepth 100000
set_option maxHeartbeats 16000000
set_option linter.unusedVariables false
set_option linter.unusedSimpArgs false
namespace Go.Proofs.YtdjhnfopdlgliaaGreat
open Go.RowKit
open Classical
theorem find_at{p:Int→Bool}{l:List Int}{j:Nat}(hj:j<l.length)(h1:p l[j]=true)(h2:∀i (hi:i<l.length),i<j→p l[i]=false):l.find? p=some l[j]:=by
 rw[List.find?_eq_some_iff_getElem]
 exact⟨h1,j,hj,rfl,fun i hi=>by rw[h2 i (by omega) hi];rfl⟩
section
variable {gs:List (List Int)} {ls:List Lnk} (hB:EdgB gs) (hg:∀i,i<gs.length→gs.getD i []=nextR ls i) (hl:∀x∈ls,LnkIn gs.length x)
include hB hg hl
theorem wayR_next{tt a:Nat}(ht:tt<gs.length)(ha:a<gs.length)(hne:a≠tt)(hd:(dR ls gs.length tt).getD a 0≤gs.length):
  ∃y:Nat,(y:Int)∈nextR ls a∧y<gs.length∧(dR ls gs.length tt).getD y 0+1=(dR ls gs.length tt).getD a 0:=by
 obtain⟨_,e⟩:=dR_eq hB hg hl ht
 rw[e a ha] at hd
 obtain⟨y,h1,h2,h3⟩:=Dp_sup hB hne ha hd
 rw[hg a ha] at h1
 exact⟨y,h1,h2,by rw[e y h2,e a ha];exact h3⟩
theorem wayR_pos{tt a:Nat}(ht:tt<gs.length)(ha:a<gs.length)(hne:a≠tt):0<(dR ls gs.length tt).getD a 0:=by
 obtain⟨_,e⟩:=dR_eq hB hg hl ht
 rw[e a ha]
 exact Nat.pos_of_ne_zero (fun q=>hne (Dp_zero q))
theorem wayR_max{tt a:Nat}(ht:tt<gs.length)(ha:a<gs.length):(dR ls gs.length tt).getD a 0≤gs.length+1:=by
 obtain⟨_,e⟩:=dR_eq hB hg hl ht
 rw[e a ha]
 exact Dp_le _ _ _
omit hl in
theorem nextR_in{a:Nat}(ha:a<gs.length):∀y∈nextR ls a,∃j:Nat,y=j∧j<gs.length:=fun y hy=>hB a y (by rw[hg a ha];exact hy)
end
theorem wayF_len(ls:List Lnk)(d:List Nat)(tt:Nat):∀(f a:Nat) (out:List Int),(wayF ls d tt f a out).length≤out.length+f
 |0,a,out=>Nat.le_refl _
 |f+1,a,out=>by
  rw[wayF]
  split
  ·omega
  ·split
   ·rename_i k _
    have:=wayF_len ls d tt f k.toNat (out++ [k])
    rw[List.length_append] at this
    simp only[List.length_cons,List.length_nil] at this
    omega
   ·have:=wayF_len ls d tt f a (out++ [(a:Int)])
    rw[List.length_append] at this
    simp only[List.length_cons,List.length_nil] at this
    omega
theorem wayF_in{ls:List Lnk}{n:Nat}(h:∀a,a<n→∀y∈nextR ls (a:Nat),∃j:Nat,y=j∧j<n)(d:List Nat)(tt:Nat):∀(f a:Nat) (out:List Int),a<n→(∀z∈out,∃j:Nat,z=j∧j<n)→∀z∈wayF ls d tt f a out,∃j:Nat,z=j∧j<n
 |0,a,out,_,ho=>ho
 |f+1,a,out,ha,ho=>by
  rw[wayF]
  split
  ·exact ho
  ·split
   ·rename_i k hk
    obtain⟨j,rfl,hj⟩:=h a ha k (List.mem_of_find?_eq_some hk)
    refine wayF_in h d tt f _ _ (by rw[Int.toNat_natCast];exact hj) (fun z hz=>?_)
    rcases List.mem_append.1 hz with hz|hz
    ·exact ho z hz
    ·rw[List.mem_singleton.1 hz];exact⟨j,rfl,hj⟩
   ·refine wayF_in h d tt f _ _ ha (fun z hz=>?_)
    rcases List.mem_append.1 hz with hz|hz
    ·exact ho z hz
    ·rw[List.mem_singleton.1 hz];exact⟨a,rfl,ha⟩
theorem rWay_ok{ls:List Lnk}{n frm tt:Nat}(h:∀a,a<n→∀y∈nextR ls (a:Nat),∃j:Nat,y=j∧j<n)(hf:frm<n):(rWay ls n frm tt).length≤n+2∧∀z∈rWay ls n frm tt,∃j:Nat,z=j∧j<n:=by
 unfold rWay
 split
 ·exact⟨by simp,fun z hz=>by simp at hz⟩
 ·refine⟨?_,wayF_in h _ _ _ _ _ hf (fun z hz=>by rw[List.mem_singleton.1 hz];exact⟨frm,rfl,hf⟩)⟩
  have:=wayF_len ls (dR ls n tt) tt (n+1) frm [(frm:Int)]
  simp only[List.length_cons,List.length_nil] at this
  omega
theorem relR_len(tt:Nat)(d:List Nat)(x:Lnk):(relR tt d x).length=d.length:=by
 unfold relR
 split
 ·rw[List.length_set]
 ·rfl
theorem foldR_len(tt:Nat):∀(ls:List Lnk) (d:List Nat),(ls.foldl (relR tt) d).length=d.length
 | [],d=>rfl
 |x::ls,d=>by rw[List.foldl_cons,foldR_len tt ls,relR_len]
theorem foldR_max(tt M:Nat):∀(ls:List Lnk) (d:List Nat),(∀z,d.getD z 0≤M)→∀z,(ls.foldl (relR tt) d).getD z 0≤M
 | [],d,h=>h
 |x::ls,d,h=>by
  rw[List.foldl_cons]
  refine foldR_max tt M ls _ (fun z=>?_)
  unfold relR
  split
  ·rename_i q
   by_cases e:x.node.toNat=z
   ·subst e
    by_cases hz:x.node.toNat<d.length
    ·rw[getD_set_self' hz];have:=h x.node.toNat;omega
    ·rw[List.set_eq_of_length_le (by omega)];exact h _
   ·rw[getD_set_other e];exact h z
  ·exact h z
theorem roundsR_len(ls:List Lnk)(tt:Nat)(d:List Nat):∀r,(roundsR ls tt r d).length=d.length
 |0=>rfl
 |r+1=>by rw[roundsR,roundR,foldR_len,roundsR_len ls tt d r]
theorem roundsR_max(ls:List Lnk)(tt M:Nat){d:List Nat}(h:∀z,d.getD z 0≤M):∀r z,(roundsR ls tt r d).getD z 0≤M
 |0,z=>h z
 |r+1,z=>by rw[roundsR,roundR];exact foldR_max tt M ls _ (roundsR_max ls tt M h r) z
theorem d0_max(n tt:Nat):∀z,((List.replicate n (n+1)).set tt 0).getD z 0≤n+1:=fun z=>by
 by_cases e:tt=z
 ·subst e
  by_cases hz:tt<n
  ·rw[getD_set_self' (by simpa using hz)];omega
  ·rw[List.set_eq_of_length_le (by simp;omega),List.getD_eq_getElem?_getD,List.getElem?_replicate,if_neg hz];simp
 ·rw[getD_set_other e,List.getD_eq_getElem?_getD,List.getElem?_replicate]
  split<;>simp
theorem foldR_snoc(tt:Nat)(ls:List Lnk)(m:Nat)(h:m<ls.length)(d:List Nat):(ls.take (m+1)).foldl (relR tt) d=relR tt ((ls.take m).foldl (relR tt) d) ls[m]:=by
 rw[List.take_succ_eq_append_getElem h,List.foldl_append];rfl
theorem way_any(gs:List (List Int))(lts:List LT)(la:Option Addr)(lc base n frm tt:Nat)(w:World)(h:w.ownsRow base 40 5 (.slice la lts.length lc) lts.length (encLks lts))(hf:lts.length≤10000)
  (hB:EdgB gs) (hg:∀i,i<gs.length→gs.getD i []=nextR (lks lts) i) (hl:∀x∈lks lts,LnkIn gs.length x) (hn:gs.length=n) (hn2:n≤120) (hfr:frm<n) (htt:tt<n):
  Calls Tryz.prog 59 #[.slice la lts.length lc,.int .i64 (n:Int),.int .i64 (frm:Int),.int .i64 (tt:Int)] w (GivesN w (rWay (lks lts) n frm tt)):=by
 have OL:=Lib.hid h
 have HN:=Lib.hid hn
 have LI:=Lib.hid (fun x hx=>(show LnkIn n x by rw[←hn];exact hl x hx))
 have WN:=Lib.hid (fun a (ha:a<n) (hne:a≠tt) (hd:(dR (lks lts) n tt).getD a 0≤n)=>(show∃y:Nat,(y:Int)∈nextR (lks lts) a∧y<n∧(dR (lks lts) n tt).getD y 0+1=(dR (lks lts) n tt).getD a 0 by
  subst hn;exact wayR_next hB hg hl htt ha hne hd))
 have WP:=Lib.hid (fun a (ha:a<n) (hne:a≠tt)=>(show 0<(dR (lks lts) n tt).getD a 0 by subst hn;exact wayR_pos hB hg hl htt ha hne))
 have WM:=Lib.hid (fun a (ha:a<n)=>(show(dR (lks lts) n tt).getD a 0≤n+1 by subst hn;exact wayR_max hB hg hl htt ha))
 have NI:=Lib.hid (fun a (ha:a<n)=>(show∀y∈nextR (lks lts) a,∃j:Nat,y=j∧j<n by subst hn;exact nextR_in hB hg ha))
 have DL:Hid ((dR (lks lts) n tt).length=n):=Lib.hid (by subst hn;exact(dR_eq hB hg hl htt).1)
 have NXL:=Lib.hid (fun a=>nextR_len (lks lts) a)
 obtain⟨nl,hnl⟩:∃N:Nat,Hid (lts.length=N):=⟨_,Lib.hid rfl⟩
 have n600:nl≤10000:=by rw[←hnl.out];exact hf
 have LN:Hid ((lks lts).length=nl):=Lib.hid (by unfold lks;rw[List.length_map];exact hnl.out)
 have NX:=fun i W (hW:Gr w W)=>next_any lts la lc base i W (Gr.owns h hW) hf
 obtain⟨P0,hP0⟩:∃P:Ending→World→Prop,P=GivesN w (rWay (lks lts) n frm tt):=⟨_,rfl⟩
 rw[←hP0]
 have HP0:=Lib.hid hP0
 rw[hnl.out] at NX ⊢
 have NX:=Lib.hid NX
 have hmk:=run_make_row' (P:=Tryz.prog) 38 3 (.int .i64 0) 8 Tryz.underlying38 infoInt rfl .i64 .i64 n (by omega) (by omega)
 have WR:Hid (IntKind.i64.wrap ((n:Int)+1)=(n:Int)+1):=Lib.hid (by rw[IntKind.wrap_i64];omega)
 have WRo:=WR.out
 have fn:(frm:Int)<(n:Int):=by omega
 have tn:(tt:Int)<(n:Int):=by omega
 clear h hf hP0 hB hg hl hn
 go_enter Tryz.func59,Tryz.ntmps59
 go_wp2_with fail
 have RD:=Lib.hid (Row.new w (madeCells #[.int .i64 0] n) 3)
 obtain⟨W2,hW2⟩:∃W:World,Hid (W=w.alloc (.cells (madeCells #[.int .i64 0] n) 3)):=⟨_,Lib.hid rfl⟩
 rw[←hW2.out,made_one,show List.replicate n (Value.int .i64 0)=nums (ci (List.replicate n 0)) by rw[ci_rep];simp[nums]] at RD
 have G2:Hid (Gr w W2):=Lib.hid (by rw[hW2.out];exact(Gr.refl _).alloc _)
 obtain⟨DB,hDB⟩:∃N:Nat,Hid (w.heap.size=N):=⟨_,Lib.hid rfl⟩
 have SB:Hid (w.heap.size≤DB):=Lib.hid (by rw[hDB.out];exact Nat.le_refl _)
 rw[←hW2.out,hDB.out]
 rw[hDB.out] at RD
 clear hmk hW2
 go_loopw [25] (fun s wr=>∃(k:Nat) (d:List Nat),k≤n∧s= .int .i64 (k:Int)∧d.length=n∧(∀j,j<k→d.getD j 0=n+1)∧Row wr DB 3 (nums (ci d))∧Gr w wr) (fun s _=>n-(intOf s).toNat)
 case atStart=>exact⟨0,List.replicate n 0,Nat.zero_le _,rfl,by simp,fun j h=>by omega,RD.out,G2.out⟩
 case round=>
  clear RD G2
  obtain⟨k,d,hk,rfl,hdl,hall,hrow,hg⟩:=hrel
  have HG:=Lib.hid hg
  have RW:=Lib.hid hrow
  have DLN:=Lib.hid hdl
  have HA:=Lib.hid hall
  clear hg hrow hall
  by_cases hlt:k<n
  ·have z0:=row_ci RW.out k (by omega)
   have zf:=RW.out.free k
   have hz:=has_of_cell z0
   have kn:(k:Int)<(n:Int):=by omega
   have HLT:=Lib.hid hlt
   have RW2:Hid (Row (wr.setCell ⟨DB,k,none⟩ (.int .i64 ((n:Int)+1))) DB 3 (nums (ci (d.set k (n+1))))):=Lib.hid (by
    rw[ci_set]
    have:=RW.out.iset k ((n:Int)+1)
    rw[show(((n+1:Nat)):Int)=(n:Int)+1 by omega]
    exact this)
   clear hlt hdl
   go_wp2_with fail
   go_roundw
   case rel=>exact⟨k+1,d.set k (n+1),by have:=HLT.out;omega,by go_num,by rw[List.length_set];exact DLN.out,fun j hj=>(by
    by_cases e:k=j
    ·subst e;exact getD_set_self' (by rw[DLN.out];exact HLT.out)
    ·rw[getD_set_other e];exact HA.out j (by omega)),RW2.out,HG.out.setc SB.out⟩
   case measure=>simp[intOf];have:=HLT.out;omega
  ·have kn:¬(k:Int)<(n:Int):=by omega
   have e:k=n:=by omega
   have DE:Hid (d=List.replicate n (n+1)):=Lib.hid (List.ext_getElem (by rw[hdl,List.length_replicate]) (fun j h1 h2=>by
    rw[List.getElem_replicate,←HA.out j (by omega),getD_lt h1]))
   have z0:=row_ci RW.out tt (by omega)
   have zf:=RW.out.free tt
   have hz:=has_of_cell z0
   obtain⟨d0,hd0⟩:∃d0,(List.replicate n (n+1)).set tt 0=d0:=⟨_,rfl⟩
   have D0:=Lib.hid hd0
   have D0L:Hid (d0.length=n):=Lib.hid (by rw[←hd0];simp)
   have D0M:Hid (∀z,d0.getD z 0≤n+1):=Lib.hid (by rw[←hd0];exact d0_max n tt)
   have RW2:Hid (Row (wr.setCell ⟨DB,tt,none⟩ (.int .i64 0)) DB 3 (nums (ci d0))):=Lib.hid (by
    rw[←hd0,ci_set,←DE.out]
    exact RW.out.iset tt 0)
   have HG2:Hid (Gr w (wr.setCell ⟨DB,tt,none⟩ (.int .i64 0))):=Lib.hid (HG.out.setc SB.out)
   clear hlt e hdl hd0
   go_wp2_with fail
   clear z0 zf hz kn
   obtain⟨w3,hw3⟩:∃W:World,Hid (wr.setCell ⟨DB,tt,none⟩ (.int .i64 0)=W):=⟨_,Lib.hid rfl⟩
   rw[hw3.out] at RW2 HG2 ⊢
   clear hw3
   go_loopw [12] (fun s wr=>∃r:Nat,r≤n∧s= .int .i64 (r:Int)∧Row wr DB 3 (nums (ci (roundsR (lks lts) tt r d0)))∧Gr w wr) (fun s _=>n-(intOf s).toNat)
   case atStart=>exact⟨0,Nat.zero_le _,rfl,RW2.out,HG2.out⟩
   case round=>
    clear RW2 HG2 RW HG
    obtain⟨r,hr,rfl,hrow,hg⟩:=hrel
    have HG:=Lib.hid hg
    have RW:=Lib.hid hrow
    clear hrow hg
    by_cases hlt:r<n
    ·have rn:(r:Int)<(n:Int):=by omega
     have HLT:=Lib.hid hlt
     obtain⟨dr,hdr⟩:∃d,roundsR (lks lts) tt r d0=d:=⟨_,rfl⟩
     have DRN:Hid (roundsR (lks lts) tt (r+1) d0=(lks lts).foldl (relR tt) dr):=Lib.hid (by rw[roundsR,roundR,hdr])
     have DRL:Hid (dr.length=n):=Lib.hid (by rw[←hdr,roundsR_len];exact D0L.out)
     have DRM:Hid (∀z,dr.getD z 0≤n+1):=Lib.hid (by rw[←hdr];exact roundsR_max _ _ _ D0M.out r)
     rw[hdr] at RW
     clear hdr hlt hr
     go_wp2_with fail
     obtain⟨w4,rfl⟩:∃wo,wo=wr:=⟨_,rfl⟩
     go_loopw [43] (fun s wr=>∃m:Nat,m≤nl∧s= .int .i64 (m:Int)∧Row wr DB 3 (nums (ci (((lks lts).take m).foldl (relR tt) dr)))∧Gr w wr) (fun s _=>nl-(intOf s).toNat)
     case atStart=>exact⟨0,Nat.zero_le _,rfl,RW.out,HG.out⟩
     case round=>
      clear RW HG
      obtain⟨m,hm,rfl,hrow,hg⟩:=hrel
      have HG:=Lib.hid hg
      have RW:=Lib.hid hrow
      clear hrow hg
      by_cases hml:m<nl
      ·have hmt:m<lts.length:=by rw[hnl.out];exact hml
       have hml2:m<(lks lts).length:=by rw[LN.out];exact hml
       obtain⟨g2,e2, -,p0,p1,p2,p3,p4⟩:=lk_at (Gr.owns OL.out HG.out) hmt
       subst e2
       obtain⟨t,ht⟩:∃t,lts[m]=t:=⟨_,rfl⟩
       have et:(lks lts)[m]=t.l:=by rw[lks_get hmt,ht]
       obtain⟨x,y,ex,hx,ey,hy⟩:=LI.out t.l (by rw[←et];exact List.getElem_mem hml2)
       have PS:=foldR_snoc tt (lks lts) m hml2 dr
       rw[et] at PS
       rw[ht] at p0 p1 p2 p3 p4
       rw[ex] at p0
       rw[ey] at p1
       obtain⟨dm,hdm⟩:∃d,((lks lts).take m).foldl (relR tt) dr=d:=⟨_,rfl⟩
       have DMM:∀z,dm.getD z 0≤n+1:=by rw[←hdm];exact foldR_max tt (n+1) _ _ DRM.out
       have DML:dm.length=n:=by rw[←hdm,foldR_len];exact DRL.out
       rw[hdm] at RW PS
       have PS2:Hid (((lks lts).take (m+1)).foldl (relR tt) dr=if tt<x∧dm.getD y 0+1<dm.getD x 0 then dm.set x (dm.getD y 0+1) else dm):=Lib.hid (by
        rw[PS]
        unfold relR
        rw[ex,ey,Int.toNat_natCast,Int.toNat_natCast]
        by_cases q:tt<x∧dm.getD y 0+1<dm.getD x 0
        ·rw[if_pos q,if_pos ⟨by omega,q.2⟩]
        ·rw[if_neg q,if_neg (fun h=>q ⟨by omega,h.2⟩)])
       have hp0:=has_of_cell p0
       have HML:=Lib.hid hml
       have mn:(m:Int)<(nl:Int):=by omega
       have mx:=DMM x
       have my:=DMM y
       have cx:=row_ci RW.out x (by rw[DML];exact hx)
       have cy:=row_ci RW.out y (by rw[DML];exact hy)
       obtain⟨u,hu⟩:∃u,dm.getD x 0=u:=⟨_,rfl⟩
       obtain⟨v,hv⟩:∃v,dm.getD y 0=v:=⟨_,rfl⟩
       rw[hu] at PS2 cx mx
       rw[hv] at PS2 cy my
       have HX:=Lib.hid hx
       have HY:=Lib.hid hy
       have xn:(x:Int)<(n:Int):=by omega
       have yn:(y:Int)<(n:Int):=by omega
       clear PS ht hml hm hmt hml2 et ex ey hu hv hdm DMM DML hx hy
       go_upto_region 15 with(fail)
       have BX:=Lib.hid (Row.new wr #[.int .i64 (x:Int),.int .i64 (y:Int),.string (bs t.l.prop),.int .i64 t.l.idx,.slice t.a t.l.args.length t.c] 40)
       obtain⟨w8,hw8⟩:∃W:World,Hid (W=wr.alloc (.cells #[.int .i64 (x:Int),.int .i64 (y:Int),.string (bs t.l.prop),.int .i64 t.l.idx,.slice t.a t.l.args.length t.c] 40)):=⟨_,Lib.hid rfl⟩
       have g8:Gr wr w8:=by rw[hw8.out];exact(Gr.refl _).alloc _
       rw[←hw8.out] at BX ⊢
       obtain⟨PX,hPX⟩:∃N:Nat,Hid (wr.heap.size=N):=⟨_,Lib.hid rfl⟩
       rw[hPX.out] at BX ⊢
       have G8:=Lib.hid (HG.out.trans g8)
       have RW8:=Lib.hid (RW.out.gr g8)
       have cx:=cell_gr g8 cx
       have cy:=cell_gr g8 cy
       clear hw8 hPX g8 p0 p1 p2 p3 p4 hp0
       have y0:=BX.out.cell 0 (by simp)
       have y1:=BX.out.cell 1 (by simp)
       simp only[List.getElem_cons_zero,List.getElem_cons_succ] at y0 y1
       have hyb:=has_of_cell y0
       have hxb:=has_of_cell cx
       have xf:=RW8.out.free x
       have wv:IntKind.i64.wrap ((v:Int)+1)=(v:Int)+1:=by rw[IntKind.wrap_i64];omega
       by_cases q1:tt<x
       ·have b1:decide (tt<x)=true:=decide_eq_true q1
        have b1':decide ((tt:Int)<(x:Int))=true:=decide_eq_true (by omega)
        by_cases q2:v+1<u
        ·have b2:decide ((v:Int)+1<(u:Int))=true:=decide_eq_true (by omega)
         have PS3:Hid (((lks lts).take (m+1)).foldl (relR tt) dr=dm.set x (v+1)):=Lib.hid (by rw[PS2.out,if_pos ⟨q1,q2⟩])
         have RW9:Hid (∀W,Gr w8 W→Row (W.setCell ⟨DB,x,none⟩ (.int .i64 ((v:Int)+1))) DB 3 (nums (ci (dm.set x (v+1))))):=Lib.hid (fun W hW=>by
          rw[ci_set]
          have:=(RW8.out.gr hW).iset x ((v:Int)+1)
          rw[show(((v+1:Nat)):Int)=(v:Int)+1 by omega]
          exact this)
         clear q1 q2
         go_quiet (fail)
         go_wp2_with fail
         go_region_with (fail)
         all_goals
          go_wp2_with fail
          go_roundw
          case rel=>exact⟨m+1,by have:=HML.out;omega,by go_num,by rw[PS3.out];exact RW9.out _ (by repeat(first|with_reducible exact Gr.refl _|with_reducible refine Gr.drew ?_|with_reducible refine Gr.drewN _ ?_|with_reducible refine Gr.alloc _ ?_)),(G8.out.trans (by repeat(first|with_reducible exact Gr.refl _|with_reducible refine Gr.drew ?_|with_reducible refine Gr.drewN _ ?_|with_reducible refine Gr.alloc _ ?_))).setc SB.out⟩
          case measure=>simp[intOf];have:=HML.out;omega
        ·have b2:decide ((v:Int)+1<(u:Int))=false:=decide_eq_false (by omega)
         have PS3:Hid (((lks lts).take (m+1)).foldl (relR tt) dr=dm):=Lib.hid (by rw[PS2.out,if_neg (fun h=>q2 h.2)])
         clear q1 q2
         go_quiet (fail)
         go_wp2_with fail
         go_roundw
         case rel=>exact⟨m+1,by have:=HML.out;omega,by go_num,by rw[PS3.out];exact RW8.out.gr (by repeat(first|with_reducible exact Gr.refl _|with_reducible refine Gr.drew ?_|with_reducible refine Gr.drewN _ ?_|with_reducible refine Gr.alloc _ ?_)),G8.out.trans (by repeat(first|with_reducible exact Gr.refl _|with_reducible refine Gr.drew ?_|with_reducible refine Gr.drewN _ ?_|with_reducible refine Gr.alloc _ ?_))⟩
         case measure=>simp[intOf];have:=HML.out;omega
       ·have b1:decide (tt<x)=false:=decide_eq_false q1
        have PS3:Hid (((lks lts).take (m+1)).foldl (relR tt) dr=dm):=Lib.hid (by rw[PS2.out,if_neg (fun h=>q1 h.1)])
        clear q1
        go_quiet (fail)
        go_wp2_with fail
        go_roundw
        case rel=>exact⟨m+1,by have:=HML.out;omega,by go_num,by rw[PS3.out];exact RW8.out.gr (by repeat(first|with_reducible exact Gr.refl _|with_reducible refine Gr.drew ?_|with_reducible refine Gr.drewN _ ?_|with_reducible refine Gr.alloc _ ?_)),G8.out.trans (by repeat(first|with_reducible exact Gr.refl _|with_reducible refine Gr.drew ?_|with_reducible refine Gr.drewN _ ?_|with_reducible refine Gr.alloc _ ?_))⟩
        case measure=>simp[intOf];have:=HML.out;omega
      ·have mn:¬(m:Int)<(nl:Int):=by omega
       have PE:Hid (((lks lts).take m).foldl (relR tt) dr=roundsR (lks lts) tt (r+1) d0):=Lib.hid (by rw[DRN.out,List.take_of_length_le (by rw[LN.out];omega)])
       clear hml hm
       go_wp2_with fail
       go_roundw
       case rel=>exact⟨r+1,by have:=HLT.out;omega,by go_num,by rw[←PE.out];exact RW.out,HG.out⟩
       case measure=>simp[intOf];have:=HLT.out;omega
    ·have rn:¬(r:Int)<(n:Int):=by omega
     have e:r=n:=by omega
     have RWF:Hid (Row wr DB 3 (nums (ci (dR (lks lts) n tt)))):=Lib.hid (by have:=RW.out;rw[e,←D0.out] at this;exact this)
     obtain⟨dd,hdd⟩:∃d,dR (lks lts) n tt=d:=⟨_,rfl⟩
     have RY:Hid (rWay (lks lts) n frm tt=if n+1≤dd.getD frm 0 then [] else wayF (lks lts) dd tt (n+1) frm [(frm:Int)]):=Lib.hid (by unfold rWay;rw[hdd])
     rw[hdd] at RWF WN WP WM DL
     have z0:=row_ci RWF.out frm (by rw[DL.out];exact hfr)
     have hz:=has_of_cell z0
     obtain⟨df,hdf⟩:∃u,dd.getD frm 0=u:=⟨_,rfl⟩
     have DF:=Lib.hid hdf
     have dfm:df≤n+1:=by rw[←hdf];exact WM.out frm hfr
     rw[hdf] at z0 RY
     clear hdf hdd e hlt hr RW
     by_cases hbig:n+1≤df
     ·have b1:decide ((n:Int)+1≤(df:Int))=true:=decide_eq_true (by omega)
      have RE:Hid (rWay (lks lts) n frm tt= []):=Lib.hid (by rw[RY.out,if_pos hbig])
      clear hbig
      go_wp2_with fail
      rw[HP0.out,RE.out]
      exact⟨_,rfl,World.ownsRow_nil _ _ _ _,HG.out⟩
     ·have b1:decide ((n:Int)+1≤(df:Int))=false:=decide_eq_false (by omega)
      have RE:Hid (rWay (lks lts) n frm tt=wayF (lks lts) dd tt (n+1) frm [(frm:Int)]):=Lib.hid (by rw[RY.out,if_neg hbig])
      have DFN:Hid (df≤n):=Lib.hid (by omega)
      clear hbig
      go_wp2_with fail
      have ON:=Lib.hid (owns_newI wr [(frm:Int)] #[.int .i64 (frm:Int)] rfl 3 (DB+1) wr.heap.size 1 rfl rfl RWF.out.has (by omega))
      have SB1:Hid (w.heap.size≤DB+1):=Lib.hid (by have:=SB.out;omega)
      have DH:=Lib.hid (fun W (hW:Gr wr W)=>Nat.le_trans (show DB+1≤wr.heap.size from RWF.out.has) hW.size)
      obtain⟨w9,hw9⟩:∃W:World,Hid (W=wr.alloc (.cells #[.int .i64 (frm:Int)] 3)):=⟨_,Lib.hid rfl⟩
      have g9:Gr wr w9:=by rw[hw9.out];exact(Gr.refl _).alloc _
      rw[←hw9.out] at ON ⊢
      have G9:=Lib.hid (HG.out.trans g9)
      have RW9:=Lib.hid (RWF.out.gr g9)
      obtain⟨OB,hOB⟩:∃N:Nat,Hid (wr.heap.size=N):=⟨_,Lib.hid rfl⟩
      rw[hOB.out] at ON ⊢
      clear hw9 g9 hOB z0 hz HG RWF
      obtain⟨i0,hi0,hz0,hz1,hz2⟩:=info_parts infoInt
      go_loopw [15,16] (fun v s wr=>∃(a f:Nat) (out:List Int),s= .int .i64 (a:Int)∧a<n∧dd.getD a 0≤n∧dd.getD a 0≤f∧Hid (wayF (lks lts) dd tt f a out=rWay (lks lts) n frm tt)∧out.length+f≤n+2∧wr.ownsRow (DB+1) 3 1 v out.length (nums out)∧Row wr DB 3 (nums (ci dd))∧Gr w wr) (fun _ s _=>dd.getD (intOf s).toNat 0)
      case atStart=>exact⟨frm,n+1,[(frm:Int)],rfl,hfr,by rw[DF.out];exact DFN.out,by rw[DF.out];have:=DFN.out;omega,Lib.hid RE.out.symm,by simp;omega,ON.out,RW9.out,G9.out⟩
      case round=>
       clear ON RW9 G9 RE
       obtain⟨a,f,out,rfl,han,had,haf,HWY,hof,ho,hrow,hg⟩:=hrel
       obtain⟨va,vc,rfl⟩:=owns_slice ho
       have OW:=Lib.hid ho
       have RW:=Lib.hid hrow
       have HG:=Lib.hid hg
       obtain⟨ol,hol⟩:∃N:Nat,Hid (out.length=N):=⟨_,Lib.hid rfl⟩
       rw[hol.out] at hof ⊢
       clear ho hrow hg
       by_cases hat:a=tt
       ·subst hat
        have RE:Hid (rWay (lks lts) n frm a=out):=Lib.hid (by
         rw[←HWY.out]
         cases f with
         |zero=>rfl
         |succ f=>rw[wayF,if_pos rfl])
        have b1:((a:Int) !=(a:Int))=false:=by simp
        go_wp2_with fail
        rw[HP0.out,RE.out]
        exact⟨_,rfl,by have:=owns_low OW.out SB1.out;rw[hol.out] at this ⊢;exact this,HG.out⟩
       ·have hpos:=WP.out a han hat
        obtain⟨y,hy,hyn,hyd⟩:=WN.out a han hat had
        obtain⟨f,rfl⟩:∃z,f=z+1:=⟨f-1,by omega⟩
        have b1:((a:Int)==(tt:Int))=false:=by rw[beq_eq_false_iff_ne];omega
        have NXA:=NX.out (a:Int) wr HG.out
        have NIA:=Lib.hid (NI.out a han)
        obtain⟨nx,hnx⟩:∃l,nextR (lks lts) (a:Int)=l:=⟨_,rfl⟩
        have WS:Hid (wayF (lks lts) dd tt (f+1) a out=match nx.find? (fun k=>decide (dd.getD k.toNat 0+1=dd.getD a 0)) with|some k=>wayF (lks lts) dd tt f k.toNat (out++ [k])|none=>wayF (lks lts) dd tt f a (out++ [(a:Int)])):=Lib.hid (by rw[wayF,if_neg hat,hnx];cases List.find? (fun k:Int=>decide (dd.getD k.toNat 0+1=dd.getD a 0)) nx<;>rfl)
        have NLX:nx.length≤10000:=by rw[←hnx];have:=NXL.out (a:Int);rw[LN.out] at this;omega
        rw[hnx] at NXA NIA hy
        have HY:=Lib.hid (And.intro hy (And.intro hyn hyd))
        have da:=row_ci RW.out a (by rw[DL.out];exact han)
        obtain⟨u,hu⟩:∃u,dd.getD a 0=u:=⟨_,rfl⟩
        have HU:=Lib.hid hu
        have um:=WM.out a han
        rw[hu] at da hpos had haf um HY WS
        have HAN:=Lib.hid han
        have UB:=Lib.hid (And.intro hpos (And.intro had haf))
        obtain⟨xl,hxl⟩:∃N:Nat,Hid (nx.length=N):=⟨_,Lib.hid rfl⟩
        clear hy hyn hyd hnx hu had haf hat da
        go_wp2_with fail
        refine NXA.mono ?_
        rintro e w8 ⟨v9,rfl,h9,hg9⟩
        obtain⟨xa,xc,rfl⟩:=owns_slice h9
        have O9:=Lib.hid h9
        have G8:=Lib.hid (HG.out.trans hg9)
        have RW8:=Lib.hid (RW.out.gr hg9)
        have OW8:=Lib.hid (Gr.owns OW.out hg9)
        rw[hxl.out] at NLX ⊢
        rw[hol.out] at OW8
        clear h9 hg9 NXA
        have an:(a:Int)<(n:Int):=by have:=HAN.out;omega
        go_wp2_with fail
        go_loopw [16,92] (fun at' s wr=>∃j:Nat,j≤xl∧at'= .int .i64 (a:Int)∧s= .int .i64 (j:Int)∧(∀i (hi:i<nx.length),i<j→dd.getD (nx[i]).toNat 0+1≠u)∧Gr w8 wr) (fun _ s _=>xl-(intOf s).toNat)
        case atStart=>exact⟨0,Nat.zero_le _,rfl,rfl,fun i _ h=>by omega,by first|exact Gr.refl _|exact(Gr.refl _).drewN _⟩
        case round=>
         obtain⟨j,hj,rfl,rfl,hno,hg⟩:=hrel
         have HNO:=Lib.hid hno
         have HG8:=Lib.hid hg
         clear hno hg
         by_cases hjl:j<xl
         ·have hjx:j<nx.length:=by rw[hxl.out];exact hjl
          obtain⟨g,eg,d0⟩:=nm_at (Gr.owns O9.out HG8.out) hjx
          subst eg
          obtain⟨q,eq,hqn⟩:=NIA.out _ (List.getElem_mem hjx)
          have EQ:=Lib.hid eq
          rw[eq] at d0
          have RWr:=Lib.hid (RW8.out.gr HG8.out)
          have cq:=row_ci RWr.out q (by rw[DL.out];exact hqn)
          have ca:=row_ci RWr.out a (by rw[DL.out];exact HAN.out)
          rw[HU.out] at ca
          have qm:=WM.out q hqn
          obtain⟨v,hv⟩:∃v,dd.getD q 0=v:=⟨_,rfl⟩
          have HV:=Lib.hid hv
          rw[hv] at cq qm
          have hd:=has_of_cell d0
          have hc:=has_of_cell cq
          have jn:(j:Int)<(xl:Int):=by omega
          have qn:(q:Int)<(n:Int):=by omega
          have wv:IntKind.i64.wrap ((u:Int)-1)=(u:Int)-1:=by rw[IntKind.wrap_i64];omega
          have HJL:=Lib.hid hjl
          have HQN:=Lib.hid hqn
          have HJX:=Lib.hid hjx
          clear eq hv hjl hj hqn
          by_cases hvu:v+1=u
          ·have b2:((v:Int)==(u:Int)-1)=true:=by rw[beq_iff_eq];omega
           have FD:Hid (nx.find? (fun k=>decide (dd.getD k.toNat 0+1=u))=some (q:Int)):=Lib.hid (by
            rw[←EQ.out]
            refine find_at HJX.out ?_ (fun i hi hij=>?_)
            ·rw[EQ.out,Int.toNat_natCast,HV.out];exact decide_eq_true hvu
            ·exact decide_eq_false (HNO.out i hi hij))
           have WS2:Hid (wayF (lks lts) dd tt (f+1) a out=wayF (lks lts) dd tt f q (out++ [(q:Int)])):=Lib.hid (by rw[WS.out,FD.out];rfl)
           have HVU:=Lib.hid hvu
           have OW9:=Lib.hid (Gr.owns OW8.out HG8.out)
           clear hvu
           go_upto_region 26 with(fail)
           go_quiet (fail)
           go_upto_region 29 with(fail)
           obtain⟨wq,hwq⟩:∃W:World,Hid (W=wr.drewN nq):=⟨_,Lib.hid rfl⟩
           have gq:Gr wr wq:=by rw[hwq.out];exact(Gr.refl _).drewN _
           rw[←hwq.out]
           have OWq:=Lib.hid (Gr.owns OW9.out gq)
           have RWq:=Lib.hid (RWr.out.gr gq)
           have GQ:=Lib.hid ((G8.out.trans HG8.out).trans gq)
           have NR:=Lib.hid (row_cells (Row.new wq #[.int .i64 (q:Int)] 3))
           clear hwq gq d0 hd cq ca hc OW9
           go_wp2_with (at_builtin;refine wpList_append_own _ rfl _ _ 38 rfl (DB+1) 3 i0 (.int .i64 0) 1 8 Tryz.underlying38 hi0 hz0 hz1 hz2 rfl (by decide) (.slice va ol vc) ol (nums out) rfl (OWq.out.alloc _) ⟨wq.heap.size,0,none⟩ 1 1 [.int .i64 (q:Int)] rfl rfl NR.out (by intro u hu;rw[List.mem_singleton.1 hu];rfl) (by unfold maxLen;omega) (by omega) (by have:=RWq.out.has;unfold Has at this;simp;omega) ?_;intro v' wz hown' hgrow hnil;have HOz:=Lib.hid hown';have HGz:=Lib.hid hgrow;clear hown' hgrow hnil)
           go_roundw
           case rel=>
            have ga:Gr wq (wq.alloc (.cells #[.int .i64 (q:Int)] 3)):=(Gr.refl wq).alloc _
            have OA:=Gr.owns OWq.out ga
            have h1:=HVU.out
            have h2:=UB.out
            refine⟨q,f,out++ [(q:Int)],rfl,HQN.out,by rw[HV.out];omega,by rw[HV.out];omega,Lib.hid (WS2.out.symm.trans HWY.out),by rw[List.length_append,hol.out];simp;omega,?_,(RWq.out.gr ga).kept HGz.out (fun e=>by have:=(OA.lt DB e.symm).1;omega),(GQ.out.trans ga).grown HGz.out (fun j e=>Nat.le_trans SB1.out (OA.lt j e).1)⟩
            have:=HOz.out
            rw[List.length_append,hol.out]
            simpa [nums] using this
           case measure=>
            have h1:=HVU.out
            simp only[intOf,Int.toNat_natCast]
            rw[HV.out,HU.out]
            omega
          ·have b2:((v:Int)==(u:Int)-1)=false:=by rw[beq_eq_false_iff_ne];omega
           have HVU:=Lib.hid hvu
           clear hvu
           go_upto_region 26 with(fail)
           go_quiet (fail)
           go_wp2_with fail
           go_roundw
           case rel=>exact⟨j+1,by have:=HJL.out;omega,rfl,by go_num,fun i hi hij=>(by
            by_cases e:i=j
            ·subst e;rw[EQ.out,Int.toNat_natCast,HV.out];exact HVU.out
            ·exact HNO.out i hi (by omega)),HG8.out.trans (by repeat(first|with_reducible exact Gr.refl _|with_reducible refine Gr.drew ?_|with_reducible refine Gr.drewN _ ?_|with_reducible refine Gr.alloc _ ?_))⟩
           case measure=>simp[intOf];have:=HJL.out;omega
         ·exfalso
          obtain⟨h1,h2,h3⟩:=HY.out
          obtain⟨i,hi,e⟩:=List.getElem_of_mem h1
          refine HNO.out i hi (by have:=hxl.out;omega) ?_
          rw[e,Int.toNat_natCast]
          exact h3
theorem in_any(zs:List Int)(a:Option Addr)(cap base:Nat)(x:Int)(w:World)(h:w.ownsRow base 3 1 (.slice a zs.length cap) zs.length (nums zs))(hf:zs.length≤1000000):
  Calls Tryz.prog 17 #[.slice a zs.length cap,.int .i64 x] w (Grows w (.bool (zs.contains x))):=by
 have H:=Lib.hid h
 obtain⟨r,hr⟩:∃r,zs.contains x=r:=⟨_,rfl⟩
 have HR:=Lib.hid hr
 rw[hr]
 clear h hr
 obtain⟨P0,hP0⟩:∃P:Ending→World→Prop,P=Grows w (.bool r):=⟨_,rfl⟩
 rw[←hP0]
 have HP0:=Lib.hid hP0
 clear hP0
 go_enter Tryz.func17,Tryz.ntmps17
 go_wp2_with fail
 go_loopw [5] (fun i wr=>∃k:Nat,k≤zs.length∧i= .int .i64 (k:Int)∧(∀j (hj:j<k) (hjl:j<zs.length),zs[j]≠x)∧Gr w wr) (fun i _=>zs.length-(intOf i).toNat)
 case atStart=>exact⟨0,Nat.zero_le _,rfl,fun j h=>by omega,by first|exact Gr.refl _|exact(Gr.refl _).drewN _⟩
 case round=>
  obtain⟨k,hk,rfl,ha,hg⟩:=hrel
  have HG:=Lib.hid hg
  have HA:=Lib.hid ha
  clear hg ha
  by_cases hlt:k<zs.length
  ·obtain⟨g,eg,d0⟩:=nm_at (Gr.owns H.out HG.out) hlt
   subst eg
   obtain⟨z,hz⟩:∃z,zs[k]=z:=⟨_,rfl⟩
   have HZ:=Lib.hid hz
   have ZM:Hid (z∈zs):=Lib.hid (by rw[←hz];exact List.getElem_mem hlt)
   rw[hz] at d0
   have hd:=has_of_cell d0
   have kn:(k:Int)<(zs.length:Int):=by omega
   clear hz
   by_cases hzx:z=x
   ·have R1:Hid (r=true):=Lib.hid (by rw[←HR.out,List.contains_iff_mem,←hzx];exact ZM.out)
    have hb:(z==x)=true:=beq_iff_eq.2 hzx
    subst hzx
    clear hb
    go_wp2_with fail
    rw[HP0.out,R1.out]
    exact⟨rfl,HG.out⟩
   ·have hb:(z==x)=false:=by rw[beq_eq_false_iff_ne];exact hzx
    have HZX:=Lib.hid hzx
    clear hzx
    go_wp2_with fail
    go_roundw
    case rel=>exact⟨k+1,by omega,by go_num,fun j hj hjl=>(by
     by_cases e:j=k
     ·subst e;rw[HZ.out];exact HZX.out
     ·exact HA.out j (by omega) hjl),HG.out⟩
    case measure=>simp[intOf];omega
  ·have kn:¬(k:Int)<(zs.length:Int):=by omega
   have R1:Hid (r=false):=Lib.hid (by
    rw[←HR.out,←Bool.not_eq_true,List.contains_iff_mem]
    intro q
    obtain⟨j,hj,e⟩:=List.getElem_of_mem q
    exact HA.out j (by omega) hj e)
   clear hlt
   go_wp2_with fail
   rw[HP0.out,R1.out]
   exact⟨rfl,HG.out⟩
def preC(p:Int)(ls:List Lnk)(m:Nat):List Int:=((ls.take m).filter (fun x=>x.prov==p)).map Lnk.node
theorem preC_len(p:Int)(ls:List Lnk)(m:Nat):(preC p ls m).length≤m:=by
 unfold preC
 rw[List.length_map]
 exact Nat.le_trans (List.length_filter_le _ _) (by rw[List.length_take];omega)
theorem preC_step(p:Int)(ls:List Lnk)(m:Nat)(h:m<ls.length):preC p ls (m+1)=if ls[m].prov==p then preC p ls m++ [ls[m].node] else preC p ls m:=by
 unfold preC
 rw[List.take_succ_eq_append_getElem h,List.filter_append,List.map_append,List.filter_cons]
 split
 ·simp
 ·simp
theorem consumers_ok(ts:Tr)(a:Option Addr)(cap p:Nat)(pn cn:St)(ls:List Lnk)(w:World)(h:SlOf 3 RNod w a ts)(hc:chkT ts=0)(hp:p<ts.length)(hz:allT ts pn cn ts.length= .ok ls)(hls:ls.length≤10000):
  Calls Tryz.prog 16 #[.agg #[.slice a ts.length cap],.int .i64 p,.string (bs pn),.string (bs cn)] w fun e w'=>∃v,e= .returned (.tuple #[v,.int .i64 0])∧w'.ownsRow w.heap.size 3 1 v (consL p ls).length (nums (consL p ls))∧Gr w w':=by
 have H:=Lib.hid h
 have HC:=Lib.hid hc
 have HZ:=Lib.hid hz
 have h120:=(good_of hc).len.2
 obtain⟨i0,hi0,hz0,hz1,hz2⟩:=info_parts infoInt
 obtain⟨P0,hP0⟩:∃P:Ending→World→Prop,P=fun e w'=>∃v,e= .returned (.tuple #[v,.int .i64 0])∧w'.ownsRow w.heap.size 3 1 v (consL p ls).length (nums (consL p ls))∧Gr w w':=⟨_,rfl⟩
 rw[←hP0]
 have HP0:=Lib.hid hP0
 clear hP0 h hc hz
 go_enter Tryz.func16,Tryz.ntmps16
 go_wp2_with fail
 have RX:=Lib.hid (Row.new w #[.slice a ts.length cap] 31)
 obtain⟨W,hW⟩:∃W:World,Hid (W=w.alloc (.cells #[.slice a ts.length cap] 31)):=⟨_,Lib.hid rfl⟩
 have GW:Hid (Gr w W):=Lib.hid (by rw[hW.out];exact(Gr.refl _).alloc _)
 rw[←hW.out] at RX ⊢
 obtain⟨PB,hPB⟩:∃N:Nat,Hid (w.heap.size=N):=⟨_,Lib.hid rfl⟩
 rw[hPB.out] at RX ⊢
 clear hW
 refine(begin_any ts a cap p W (H.out.gr RNod.mono GW.out) HC.out hp).mono ?_
 rintro e w1 ⟨rfl,hg1⟩
 have G1:=Lib.hid (GW.out.trans hg1)
 have RX1:=Lib.hid (RX.out.gr hg1)
 clear hg1 RX GW
 have x0:=RX1.out.cell 0 (by simp)
 simp only[List.getElem_cons_zero] at x0
 have hx:=has_of_cell x0
 go_wp2_with fail
 refine(all_any ts a cap pn cn w1 (H.out.gr RNod.mono G1.out) HC.out).mono ?_
 intro e w2 hgv
 rw[HZ.out] at hgv
 obtain⟨lv,lts,rfl,hlk,how,hlr,hg2⟩:=hgv
 obtain⟨la,lc,rfl⟩:=owns_slice how
 have G2:=Lib.hid (G1.out.trans hg2)
 have OW:=Lib.hid (owns_low how G1.out.size)
 have HLK:=Lib.hid hlk
 obtain⟨nl,hnl⟩:∃N:Nat,Hid (lts.length=N):=⟨_,Lib.hid rfl⟩
 have LN:Hid (ls.length=nl):=Lib.hid (by rw[←hlk];unfold lks;rw[List.length_map];exact hnl.out)
 have n600:nl≤10000:=by rw[←LN.out];exact hls
 rw[hnl.out]
 clear hg2 how hlr hlk x0 hx hls RX1
 go_wp2_with fail
 go_loopw [13,34] (fun x s wr=>∃m:Nat,m≤nl∧s= .int .i64 (m:Int)∧wr.ownsRow w.heap.size 3 1 x (preC p ls m).length (nums (preC p ls m))∧wr.ownsRow w.heap.size 40 5 (.slice la nl lc) lts.length (encLks lts)∧Gr w wr) (fun _ s _=>nl-(intOf s).toNat)
 case atStart=>exact⟨0,Nat.zero_le _,rfl,World.ownsRow_nil _ _ _ _,by have:=OW.out;rw[hnl.out] at this ⊢;exact this,G2.out⟩
 case round=>
  clear OW G2
  obtain⟨m,hm,rfl,ho,hol,hg⟩:=hrel
  obtain⟨va,vc,rfl⟩:=owns_slice ho
  have OW:=Lib.hid ho
  have OL:=Lib.hid hol
  have HG:=Lib.hid hg
  have PL:=preC_len p ls m
  clear ho hol hg
  by_cases hml:m<nl
  ·have hmt:m<lts.length:=by rw[hnl.out];exact hml
   obtain⟨g2,e2, -,p0,p1,p2,p3,p4⟩:=lk_at OL.out hmt
   subst e2
   obtain⟨t,ht⟩:∃t,lts[m]=t:=⟨_,rfl⟩
   have PS:Hid (preC p ls (m+1)=if t.l.prov==(p:Int) then preC p ls m++ [t.l.node] else preC p ls m):=Lib.hid (by
    have hml2:m<ls.length:=by rw[LN.out];exact hml
    have e:ls[m]=t.l:=by
     have q:=lks_get hmt
     rw[ht] at q
     rw[←q]
     congr 1
     exact HLK.out.symm
    rw[preC_step _ _ _ hml2,e])
   rw[ht] at p0 p1 p2 p3 p4
   obtain⟨tp,htp⟩:∃z,t.l.prov=z:=⟨_,rfl⟩
   rw[htp] at p1 PS
   have hp0:=has_of_cell p0
   have HML:=Lib.hid hml
   have mn:(m:Int)<(nl:Int):=by omega
   obtain⟨q,hq⟩:∃N:Nat,Hid ((preC p ls m).length=N):=⟨_,Lib.hid rfl⟩
   have q600:q≤10000:=by rw[←hq.out];omega
   have OWQ:Hid (wr.ownsRow w.heap.size 3 1 (.slice va q vc) q (nums (preC p ls m))):=Lib.hid (by have:=OW.out;rw[hq.out] at this;exact this)
   rw[hq.out]
   clear ht htp hml hm hmt PL
   go_upto_region 11 with(fail)
   have BX:=Lib.hid (Row.new wr #[.int .i64 t.l.node,.int .i64 tp,.string (bs t.l.prop),.int .i64 t.l.idx,.slice t.a t.l.args.length t.c] 40)
   obtain⟨w8,hw8⟩:∃W:World,Hid (W=wr.alloc (.cells #[.int .i64 t.l.node,.int .i64 tp,.string (bs t.l.prop),.int .i64 t.l.idx,.slice t.a t.l.args.length t.c] 40)):=⟨_,Lib.hid rfl⟩
   have g8:Gr wr w8:=by rw[hw8.out];exact(Gr.refl _).alloc _
   rw[←hw8.out] at BX ⊢
   obtain⟨PX,hPX⟩:∃N:Nat,Hid (wr.heap.size=N):=⟨_,Lib.hid rfl⟩
   rw[hPX.out] at BX ⊢
   have G8:=Lib.hid (HG.out.trans g8)
   have OW8:=Lib.hid (Gr.owns OWQ.out g8)
   have OL8:=Lib.hid (Gr.owns OL.out g8)
   clear hw8 hPX g8 p0 p1 p2 p3 p4 hp0
   have y0:=BX.out.cell 0 (by simp)
   have y1:=BX.out.cell 1 (by simp)
   simp only[List.getElem_cons_zero,List.getElem_cons_succ] at y0 y1
   have hy:=has_of_cell y0
   by_cases hpv:tp=(p:Int)
   ·subst hpv
    have PS2:Hid (preC p ls (m+1)=preC p ls m++ [t.l.node]):=Lib.hid (by rw[PS.out,if_pos (by simp)])
    have NR:=Lib.hid (row_cells (Row.new w8 #[.int .i64 t.l.node] 3))
    go_wp2_with (at_builtin;refine wpList_append_own _ rfl _ _ 38 rfl w.heap.size 3 i0 (.int .i64 0) 1 8 Tryz.underlying38 hi0 hz0 hz1 hz2 rfl (by decide) (.slice va q vc) q (nums (preC p ls m)) rfl (OW8.out.alloc _) ⟨w8.heap.size,0,none⟩ 1 1 [.int .i64 t.l.node] rfl rfl NR.out (by intro u hu;rw[List.mem_singleton.1 hu];rfl) (by unfold maxLen;omega) (by omega) (by have:=G8.out.size;simp;omega) ?_;intro v' wz hown' hgrow hnil;have HOz:=Lib.hid hown';have HGz:=Lib.hid hgrow;clear hown' hgrow hnil)
    go_roundw
    case rel=>
     have ga:Gr w8 (w8.alloc (.cells #[.int .i64 t.l.node] 3)):=(Gr.refl w8).alloc _
     have OA:=Gr.owns OW8.out ga
     refine⟨m+1,by have:=HML.out;omega,by go_num,?_,(Gr.owns OL8.out ga).kept HGz.out (owns_ne (Gr.owns OL8.out ga) OA (by decide)),(G8.out.trans ga).grown HGz.out (fun j e=>(OA.lt j e).1)⟩
     have:=HOz.out
     rw[PS2.out,List.length_append,hq.out]
     simpa [nums] using this
    case measure=>simp[intOf];have:=HML.out;omega
   ·have hb:(tp==(p:Int))=false:=by rw[beq_eq_false_iff_ne];exact hpv
    have PS2:Hid (preC p ls (m+1)=preC p ls m):=Lib.hid (by rw[PS.out,hb];rfl)
    clear hpv
    go_wp2_with fail
    go_roundw
    case rel=>exact⟨m+1,by have:=HML.out;omega,by go_num,by rw[PS2.out,hq.out];exact OW8.out,OL8.out,G8.out⟩
    case measure=>simp[intOf];have:=HML.out;omega
  ·have mn:¬(m:Int)<(nl:Int):=by omega
   have PE:Hid (Lib.compact (preC p ls m)=consL p ls):=Lib.hid (by unfold preC consL;rw[List.take_of_length_le (by rw[LN.out];omega)])
   have CI:=compI_any (preC p ls m) (.slice va (preC p ls m).length vc) w.heap.size wr OW.out (by omega)
   have CI:=Lib.hid CI
   clear hml
   go_wp2_with fail
   refine CI.out.mono ?_
   rintro e w9 hcp
   unfold CompsI at hcp
   obtain⟨v9,rfl,h1,h2,_⟩:=hcp
   rw[PE.out] at h1
   have O9:=Lib.hid h1
   have G9:Hid (Gr w w9):=Lib.hid (HG.out.grown h2 (fun j e=>(OW.out.lt j e).1))
   clear h1 h2
   go_wp2_with fail
   rw[HP0.out]
   exact⟨v9,rfl,O9.out,G9.out⟩
def consE(ts:Tr)(k:Int)(pn cn:St):Except Int (List Int):=if chkT ts≠0 then .error (chkT ts) else if k<0∨(ts.length:Int)≤k then .error 4 else match allT ts pn cn ts.length with
 | .error e=> .error e
 | .ok ls=> .ok (consR ls k)
theorem consR_wide{ts:Tr}{pn cn:St}{ls:List Lnk}(hc:chkT ts=0)(h:allT ts pn cn ts.length= .ok ls)(k:Int):∀z∈consR ls k,Wide z:=fun z hz=>by
 unfold consR at hz
 rw[mem_putsI,List.mem_map] at hz
 obtain⟨x,hx,rfl⟩:=hz
 obtain⟨⟨i,e1,e2⟩,_⟩:=allT_mem _ _ h x (List.mem_filter.1 hx).1
 have:=(good_of hc).len.2
 rw[e1]
 unfold Wide
 omega
theorem allT_few{ts:Tr}{pn cn:St}{ls:List Lnk}(hc:chkT ts=0)(h:allT ts pn cn ts.length= .ok ls):ls.length≤10000:=by
 have g:=good_of hc
 have:=allT_len2 g _ _ (Nat.le_refl _) h
 have:=g.len.2
 omega
theorem rConsE_any(ts:Tr)(a:Option Addr)(cap:Nat)(k:Int)(pn cn:St)(w:World)(h:SlOf 3 RNod w a ts)(hf:ts.length≤1000000):
  Calls Tryz.prog 27 #[.agg #[.slice a ts.length cap],.int .i64 k,.string (bs pn),.string (bs cn)] w (GivesI w (consE ts k pn cn)):=by
 have H:=Lib.hid h
 obtain⟨c,hc⟩:∃c,chkT ts=c:=⟨_,rfl⟩
 have HC:=Lib.hid hc
 have CK:=rCheck_err ts a cap (c:=c)
 have CK:=Lib.hid (fun w h=>CK w h hf hc)
 obtain⟨R,hR⟩:∃R,consE ts k pn cn=R:=⟨_,rfl⟩
 have HR:=Lib.hid hR
 rw[hR]
 obtain⟨P0,hP0⟩:∃P:Ending→World→Prop,P=GivesI w R:=⟨_,rfl⟩
 rw[←hP0]
 have HP0:=Lib.hid hP0
 clear h hc hR hP0
 go_enter Tryz.func27,Tryz.ntmps27
 go_wp2_with fail
 have RB:=Lib.hid (Row.new w #[.slice a ts.length cap] 31)
 obtain⟨W1,hW1⟩:∃W:World,Hid (W=w.alloc (.cells #[.slice a ts.length cap] 31)):=⟨_,Lib.hid rfl⟩
 (try rw[←hW1.out])
 rw[←hW1.out] at RB
 have G1:Hid (Gr w W1):=Lib.hid (by rw[hW1.out];exact(Gr.refl _).alloc _)
 obtain⟨PB,hPB⟩:∃N:Nat,Hid (w.heap.size=N):=⟨_,Lib.hid rfl⟩
 rw[hPB.out] at RB
 (try rw[hPB.out])
 clear hW1 hPB
 refine(CK.out W1 (H.out.gr RNod.mono G1.out)).mono ?_
 rintro e w1 ⟨rfl,hg1⟩
 have G2:=Lib.hid (G1.out.trans hg1)
 have RB2:=Lib.hid (RB.out.gr hg1)
 have x0:=RB2.out.cell 0 (by simp)
 simp only[List.getElem_cons_zero] at x0
 have hx:=has_of_cell x0
 clear hg1 RB G1
 by_cases hc:c=0
 ·subst hc
  by_cases h1:k<0
  ·have RE:Hid (R= .error 4):=Lib.hid (by rw[←HR.out];unfold consE;rw[if_neg (by rw[HC.out];simp),if_pos (.inl h1)])
   have b1:decide (k<0)=true:=by simpa using h1
   clear HR
   go_wp2_with fail
   rw[HP0.out,RE.out]
   exact⟨rfl,G2.out⟩
  ·by_cases h2:(ts.length:Int)≤k
   ·have RE:Hid (R= .error 4):=Lib.hid (by rw[←HR.out];unfold consE;rw[if_neg (by rw[HC.out];simp),if_pos (.inr h2)])
    have b1:decide (k<0)=false:=by simpa using h1
    have b2:decide ((ts.length:Int)≤k)=true:=by simpa using h2
    clear HR
    go_wp2_with fail
    rw[HP0.out,RE.out]
    exact⟨rfl,G2.out⟩
   ·have RE:Hid (R=match allT ts pn cn ts.length with| .error e=> .error e| .ok ls=> .ok (consR ls k)):=Lib.hid (by rw[←HR.out];unfold consE;rw[if_neg (by rw[HC.out];simp),if_neg (by omega)])
    have OC:=Lib.hid (rAll_C ts a cap pn cn w1 (H.out.gr RNod.mono G2.out) ⟨HC.out⟩)
    have b1:decide (k<0)=false:=by simpa using h1
    have b2:decide ((ts.length:Int)≤k)=false:=by simpa using h2
    clear HR h1 h2
    go_wp2_with fail
    refine OC.out.mono ?_
    intro e w2 hgv
    cases hz:allT ts pn cn ts.length with
    |error er=>
     rw[hz] at hgv
     have RE2:Hid (R= .error er):=Lib.hid (by rw[RE.out,hz])
     have E0:=graphT_err (show graphT ts pn cn= .error er by unfold graphT;rw[hz])
     have eb:(er==0)=false:=by rw[beq_eq_false_iff_ne];omega
     obtain⟨rfl,hg2⟩:=hgv
     have G3:=Lib.hid (G2.out.trans hg2)
     clear hg2 hz OC RE x0 hx
     go_wp2_with fail
     rw[HP0.out,RE2.out]
     exact⟨rfl,G3.out⟩
    |ok ls=>
     rw[hz] at hgv
     have RE2:Hid (R= .ok (consR ls k)):=Lib.hid (by rw[RE.out,hz])
     have WD:=Lib.hid (consR_wide HC.out hz k)
     have n600:=allT_few HC.out hz
     obtain⟨lv,lts,rfl,hlk,how,hlr,hg2⟩:=hgv
     obtain⟨la,lc,rfl⟩:=owns_slice how
     have G3:=Lib.hid (G2.out.trans hg2)
     have OL:=Lib.hid how
     have G13:=Lib.hid hg2
     have HLK:=Lib.hid hlk
     obtain⟨nl,hnl⟩:∃N:Nat,Hid (lts.length=N):=⟨_,Lib.hid rfl⟩
     have LN:Hid (ls.length=nl):=Lib.hid (by rw[←hlk];unfold lks;rw[List.length_map];exact hnl.out)
     rw[LN.out] at n600
     rw[hnl.out]
     clear hg2 how hlr hlk hz OC RE x0 hx RB2
     go_wp2_with fail
     go_loopw [13,42] (fun x s wr=>∃(m:Nat) (zs:List Int),m≤nl∧s= .int .i64 (m:Int)∧Hid (consR (ls.take m) k=zs)∧wr.ownsRow w2.heap.size 3 1 x zs.length (nums zs)∧Gr w2 wr) (fun _ s _=>nl-(intOf s).toNat)
     case atStart=>exact⟨0,[],Nat.zero_le _,rfl,Lib.hid rfl,World.ownsRow_nil _ _ _ _,Gr.refl _⟩
     case round=>
      obtain⟨m,zs,hm,rfl,HZ,ho,hg⟩:=hrel
      obtain⟨va,vc,rfl⟩:=owns_slice ho
      have OW:=Lib.hid ho
      have HG:=Lib.hid hg
      have ZL:Hid (zs.length≤m):=Lib.hid (by
       have:=consR_len (ls.take m) k
       rw[HZ.out] at this
       exact Nat.le_trans this (by rw[List.length_take];omega))
      clear ho hg
      by_cases hml:m<nl
      ·have hmt:m<lts.length:=by rw[hnl.out];exact hml
       obtain⟨g2,e2, -,p0,p1,p2,p3,p4⟩:=lk_at (Gr.owns OL.out HG.out) hmt
       subst e2
       obtain⟨t,ht⟩:∃t,lts[m]=t:=⟨_,rfl⟩
       have PS:Hid (consR (ls.take (m+1)) k=if t.l.prov==k then putI zs t.l.node else zs):=Lib.hid (by
        have hml2:m<ls.length:=by rw[LN.out];exact hml
        have e:ls[m]=t.l:=by
         have q:=lks_get hmt
         rw[ht] at q
         rw[←q]
         congr 1
         exact HLK.out.symm
        rw[consR_step _ _ _ hml2,e,HZ.out])
       rw[ht] at p0 p1 p2 p3 p4
       obtain⟨tn,htn⟩:∃z,t.l.node=z:=⟨_,rfl⟩
       obtain⟨tp,htp⟩:∃z,t.l.prov=z:=⟨_,rfl⟩
       rw[htn] at p0 PS
       rw[htp] at p1 PS
       have hp0:=has_of_cell p0
       have HML:=Lib.hid hml
       have mn:(m:Int)<(nl:Int):=by omega
       clear ht htn htp hml hm hmt
       go_upto_region 13 with(fail)
       have BX:=Lib.hid (Row.new wr #[.int .i64 tn,.int .i64 tp,.string (bs t.l.prop),.int .i64 t.l.idx,.slice t.a t.l.args.length t.c] 40)
       obtain⟨w8,hw8⟩:∃W:World,Hid (W=wr.alloc (.cells #[.int .i64 tn,.int .i64 tp,.string (bs t.l.prop),.int .i64 t.l.idx,.slice t.a t.l.args.length t.c] 40)):=⟨_,Lib.hid rfl⟩
       have g8:Gr wr w8:=by rw[hw8.out];exact(Gr.refl _).alloc _
       rw[←hw8.out] at BX ⊢
       obtain⟨PX,hPX⟩:∃N:Nat,Hid (wr.heap.size=N):=⟨_,Lib.hid rfl⟩
       rw[hPX.out] at BX ⊢
       have G8:=Lib.hid (HG.out.trans g8)
       have OW8:=Lib.hid (Gr.owns OW.out g8)
       clear hw8 hPX g8 p0 p1 p2 p3 p4 hp0
       have y0:=BX.out.cell 0 (by simp)
       have y1:=BX.out.cell 1 (by simp)
       simp only[List.getElem_cons_zero,List.getElem_cons_succ] at y0 y1
       have hy:=has_of_cell y0
       by_cases hpv:tp=k
       ·subst hpv
        have PS2:Hid (consR (ls.take (m+1)) tp=putI zs tn):=Lib.hid (by rw[PS.out,if_pos (by simp)])
        have PT:=Lib.hid (putI_any zs va vc w2.heap.size tn w8 OW8.out G8.out.size (by have:=ZL.out;have:=HML.out;omega))
        go_wp2_with fail
        refine PT.out.mono ?_
        rintro e w9 ⟨v9,rfl,h9,hg9⟩
        have O9:=Lib.hid h9
        have G9:=Lib.hid (G8.out.trans hg9)
        clear h9 hg9 y0 y1 hy
        go_wp2_with fail
        go_roundw
        case rel=>exact⟨m+1,_,by have:=HML.out;omega,by go_num,PS2,O9.out,G9.out⟩
        case measure=>simp[intOf];have:=HML.out;omega
       ·have hb:(tp==k)=false:=by rw[beq_eq_false_iff_ne];exact hpv
        have PS2:Hid (consR (ls.take (m+1)) k=zs):=Lib.hid (by rw[PS.out,hb];rfl)
        clear hpv
        go_wp2_with fail
        go_roundw
        case rel=>exact⟨m+1,zs,by have:=HML.out;omega,by go_num,PS2,OW8.out,G8.out⟩
        case measure=>simp[intOf];have:=HML.out;omega
      ·have mn:¬(m:Int)<(nl:Int):=by omega
       have PE:Hid (consR ls k=zs):=Lib.hid (by rw[←HZ.out,List.take_of_length_le (by rw[LN.out];omega)])
       clear hml
       go_wp2_with fail
       rw[HP0.out,RE2.out,PE.out]
       exact⟨_,rfl,owns_low OW.out G3.out.size,by rw[←PE.out];exact WD.out,G3.out.trans HG.out⟩
 ·have RE:Hid (R= .error c):=Lib.hid (by rw[←HR.out];unfold consE;rw[if_pos (by rw[HC.out];exact hc),HC.out])
  have c00:(c==0)=false:=by rw[beq_eq_false_iff_ne];exact hc
  clear HR
  go_wp2_with fail
  rw[HP0.out,RE.out]
  exact⟨rfl,G2.out⟩
end Go.Proofs.YtdjhnfopdlgliaaGreat
