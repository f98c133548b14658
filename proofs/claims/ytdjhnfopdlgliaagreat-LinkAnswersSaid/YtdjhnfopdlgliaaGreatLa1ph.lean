/- Lemmas and contracts for the proof of LinkAnswers (several texts in one, printed by wip/tools/pack.py): VbB VbC VbD. -/
import Derived.Test.YtdjhnfopdlgliaaGreatLa1pg
import Derived.Test.YtdjhnfopdlgliaaGreatLa1pb
import Derived.Test.YtdjhnfopdlgliaaGreatLa1pd
import Derived.Test.YtdjhnfopdlgliaaGreatLa1pf
import Derived.ArgAppend
import Derived.RangeFuncBox
set_option maxRecDepth 100000
set_option maxHeartbeats 16000000
set_option linter.unusedVariables false
set_option linter.unusedSimpArgs false
namespace Go.Proofs.YtdjhnfopdlgliaaGreat
open Go.RowKit
open Classical
theorem undr_len(s:St):(undr s).length=s.length:=by
 unfold undr
 split
 ·rename_i h
  cases s with
  |nil=>simp at h
  |cons a l=>simp
 ·rfl
theorem propLenV{s:St}(h:propOk s=true):1≤s.length∧s.length≤31:=by
 unfold propOk nameOk at h
 simp only[Bool.and_eq_true,decide_eq_true_eq,undr_len] at h
 exact⟨h.1.1.1.1,h.1.1.1.2⟩
theorem prop_at{s:St}(h:propOk s=true):∀i (hi:i<s.length),s[i]≠64:=by
 intro i hi e
 have h2:(64:UInt8)∉undr s:=by
  unfold propOk at h
  simp only[Bool.and_eq_true,Bool.not_eq_true',←Bool.not_eq_true,List.contains_iff_mem] at h
  exact h.2
 apply h2
 unfold undr
 split
 ·rename_i hh
  cases s with
  |nil=>simp at hh
  |cons a l=>
   simp only[List.head?_cons,Option.some.injEq] at hh
   subst hh
   cases i with
   |zero=>simp at e
   |succ i=>rw[List.getElem_cons_succ] at e;rw[←e];exact List.mem_cons_of_mem _ (List.getElem_mem _)
 ·rw[←e];exact List.getElem_mem hi
theorem prop_hash{s:St}(h:propOk s=true)(h0:0<s.length)(hh:s[0]=35):nameOk (97::s.tail)=true:=by
 have hu:undr s=95::s.tail:=by
  unfold undr
  rw[if_pos]
  cases s with
  |nil=>simp at h0
  |cons a l=>simpa using hh
 unfold propOk at h
 rw[hu] at h
 unfold nameOk at h ⊢
 simp only[Bool.and_eq_true,decide_eq_true_eq,List.all_cons] at h ⊢
 exact⟨⟨⟨h.1.1.1.1,h.1.1.1.2⟩,rfl⟩,rfl,h.1.2.2⟩
theorem prop_plain{s:St}(h:propOk s=true)(h0:0<s.length)(hh:s[0]≠35):nameOk s=true:=by
 have hu:undr s=s:=by
  unfold undr
  rw[if_neg]
  cases s with
  |nil=>simp
  |cons a l=>simpa using hh
 unfold propOk at h
 rw[hu,Bool.and_eq_true] at h
 exact h.1
theorem refProp_ok(s:St)(h:propOk s=true)(w:World):
  Calls Tryz.prog 120 #[.string (bs s)] w fun e w'=>e= .returned (.bool true)∧w=w':=by
 obtain⟨h1,h2⟩:=propLenV h
 have HP:=Lib.hid h
 have AT:=Lib.hid (prop_at h)
 have e0:(bs s).size=s.length:=bs_size s
 clear h
 go_enter Tryz.func120,Tryz.ntmps120
 go_wp2_with fail
 go_loop [3] (fun i=>∃k:Nat,k≤s.length∧i= .int .i64 k) (fun i=>s.length-(intOf i).toNat)
 case atStart=>exact⟨0,Nat.zero_le _,rfl⟩
 case round=>
  obtain⟨k,hk,rfl⟩:=hrel
  by_cases hlt:k<s.length
  ·have q0:=AT.out k hlt
   have q1:¬(s[k].toNat:Int)=64:=fun e=>q0 (UInt8.toNat_inj.1 (by show s[k].toNat=64;omega))
   have q2:((s[k].toNat:Int)==64)=false:=by rw[beq_eq_false_iff_ne];exact q1
   clear q0
   go_wp2_with fail
   go_round
   case rel=>exact⟨k+1,by omega,by go_num⟩
   case measure=>simp[intOf];omega
  ·obtain rfl:k=s.length:=by omega
   by_cases hh:s[0]=35
   ·have NO:=Lib.hid (prop_hash HP.out (by omega) hh)
    have q1:(s[0].toNat:Int)=35:=by rw[hh];rfl
    have q2:((s[0].toNat:Int)==35)=true:=by rw[q1];rfl
    clear q1 hh
    by_cases hl:s.length=1
    ·have HL:=Lib.hid hl
     have q3:((s.length:Int)==1)=true:=by rw[hl];rfl
     have q4:(s.length:Int)=1:=by omega
     clear hl
     go_wp2_with fail
     go_ret
     exact⟨ret_bool (by simp),rfl⟩
    ·have q3:((s.length:Int)==1)=false:=by rw[beq_eq_false_iff_ne];omega
     have ht:List.take (s.length-1) s.tail=s.tail:=List.take_of_length_le (by simp)
     have ht2:(s.drop 1).take (s.length-1)=s.tail:=by rw[List.drop_one];exact ht
     go_wp2_with (go_at_call 119;refine(refName_any _ _).mono ?_;rintro e w' ⟨rfl,rfl⟩)
     go_ret
     exact⟨ret_bool (by rw[NO.out]),rfl⟩
   ·have NO:=Lib.hid (prop_plain HP.out (by omega) hh)
    have q1:¬(s[0].toNat:Int)=35:=fun e=>hh (UInt8.toNat_inj.1 (by show s[0].toNat=35;omega))
    have q2:((s[0].toNat:Int)==35)=false:=by rw[beq_eq_false_iff_ne];exact q1
    clear hh
    go_wp2_with (go_at_call 119;refine(refName_any _ _).mono ?_;rintro e w' ⟨rfl,rfl⟩;rw[NO.out])
    go_ret
    exact⟨ret_bool (by simp),rfl⟩
theorem VT.props{ts:Tr}(h:VT ts){k:Nat}(hk:k<ts.length):PV ts[k].props:=by
 have:=h.prp k hk
 rwa [nd_get hk] at this
/-! limits. -/
def LimT(ts:Tr):Prop:=1≤ts.length∧ts.length≤120∧∀n∈ts,n.props.length≤24∧∀p∈n.props,p.val.length≤256
theorem VT.lim{ts:Tr}(h:VT ts):LimT ts:=⟨h.pos,h.few,fun n hn=>by
 obtain⟨k,hk,rfl⟩:=List.getElem_of_mem hn
 exact⟨by have:=(h.props hk).len;omega,fun p hp=>((h.props hk).mem p hp).2⟩⟩
theorem limits_ok(ts:Tr)(a:Option Addr)(cap:Nat)(w:World)(h:SlOf 3 RNod w a ts)(hl:LimT ts):
  Calls Tryz.prog 93 #[.agg #[.slice a ts.length cap]] w (Grows w (.bool false)):=by
 have H:=Lib.hid h
 have HL:=Lib.hid hl
 have l1:=hl.1
 have l2:=hl.2.1
 clear h hl
 go_enter Tryz.func93,Tryz.ntmps93
 go_wp2_with fail
 go_loopw [20] (fun i wr=>∃k:Nat,k≤ts.length∧i= .int .i64 k∧Gr w wr) (fun i _=>ts.length-(intOf i).toNat)
 case atStart=>exact⟨0,Nat.zero_le _,rfl,(Gr.refl _).alloc _⟩
 case round=>
  obtain⟨k,hk,rfl,hg⟩:=hrel
  have HG:=Lib.hid hg
  clear hg
  by_cases hlt:k<ts.length
  ·obtain⟨b,o,pa,pc,rfl,c0,c1,c2,hps,hpf,hw,hnl⟩:=nods_at (H.out.gr RNod.mono HG.out) k hlt
   have NL:=Lib.hid (HL.out.2.2 _ (List.getElem_mem hlt))
   obtain⟨n,hn⟩:∃n,ts[k]=n:=⟨_,rfl⟩
   rw[hn] at c0 c1 c2 hps NL
   have HPS:=Lib.hid hps
   have n24:=NL.out.1
   have hh:=has_of_cell c0
   clear hn hps hpf hw hnl
   go_wp2_with fail
   obtain⟨w5,hw5⟩:∃wo,wo=wr:=⟨_,rfl⟩
   rw[←hw5] at HG HPS
   go_loopw [31] (fun i wr=>∃m:Nat,m≤n.props.length∧i= .int .i64 m∧Gr w5 wr) (fun i _=>n.props.length-(intOf i).toNat)
   case atStart=>exact⟨0,Nat.zero_le _,rfl,by rw[hw5];exact(Gr.refl _).alloc _⟩
   case round=>
    clear hw5
    obtain⟨m,hm,rfl,hg⟩:=hrel
    have HJ:=Lib.hid hg
    clear hg
    by_cases hml:m<n.props.length
    ·obtain⟨b2,o2,rfl,d0,d1,l0,l1⟩:=prps_at (HPS.out.gr RPrp.mono HJ.out) m hml
     have v256:=NL.out.2 _ (List.getElem_mem hml)
     have hh2:=has_of_cell d0
     obtain⟨q,hq⟩:∃q,n.props[m]=q:=⟨_,rfl⟩
     rw[hq] at d0 d1 v256
     clear hq l0 l1
     go_wp2_with fail
     go_roundw
     case rel=>exact⟨m+1,by omega,by go_num,HJ.out.alloc _⟩
     case measure=>simp[intOf];omega
    ·go_wp2_with fail
     go_roundw
     case rel=>exact⟨k+1,by omega,by go_num,HG.out.trans HJ.out⟩
     case measure=>simp[intOf];omega
  ·go_wp2_with fail
   go_ret
   exact⟨ret_bool (by simp),HG.out⟩
/-! names. -/
theorem VT.hdr{ts:Tr}(h:VT ts){k:Nat}(hk:k<ts.length):(k=0∧ts[k].parent= -1∧ts[k].name= [])∨(0<k∧0≤ts[k].parent∧ts[k].parent<k∧nameOk ts[k].name=true):=by
 by_cases h0:k=0
 ·subst h0
  have:=h.root
  rw[nd_get hk] at this
  exact .inl ⟨rfl,this⟩
 ·have h1:=h.par (show 0<k by omega) hk
  have h2:=h.shp.par k (by omega) hk
  have h3:=(h.name (show 0<k by omega) hk).1
  unfold nmT at h3
  rw[nd_get hk] at h1 h3
  exact .inr ⟨by omega,by omega,by omega,h3⟩
theorem names_ok(ts:Tr)(a:Option Addr)(cap:Nat)(w:World)(h:SlOf 3 RNod w a ts)(hv:VT ts):
  Calls Tryz.prog 94 #[.agg #[.slice a ts.length cap]] w (Grows w (.bool true)):=by
 have H:=Lib.hid h
 have HV:=Lib.hid hv
 have l1:=hv.pos
 have l2:=hv.few
 clear h hv
 go_enter Tryz.func94,Tryz.ntmps94
 go_wp2_with fail
 go_loopw [10] (fun i wr=>∃k:Nat,k≤ts.length∧i= .int .i64 k∧Gr w wr) (fun i _=>ts.length-(intOf i).toNat)
 case atStart=>exact⟨0,Nat.zero_le _,rfl,(Gr.refl _).alloc _⟩
 case round=>
  obtain⟨k,hk,rfl,hg⟩:=hrel
  have HG:=Lib.hid hg
  clear hg
  by_cases hlt:k<ts.length
  ·obtain⟨b,o,pa,pc,rfl,c0,c1,c2,hps,hpf,hw,hnl⟩:=nods_at (H.out.gr RNod.mono HG.out) k hlt
   have PP:=Lib.hid (HV.out.props hlt)
   have HD:=HV.out.hdr hlt
   obtain⟨n,hn⟩:∃n,ts[k]=n:=⟨_,rfl⟩
   rw[hn] at c0 c1 c2 hps PP HD
   have HPS:=Lib.hid hps
   have n24:=PP.out.len
   have hh:=has_of_cell c0
   clear hn hps hpf hw hnl
   rcases HD with⟨k0,q1,q2⟩|⟨k0,q1,q2,q3⟩
   case' inl=>
    have kb:((k:Int)==0)=true:=by simp[k0]
    have kg:decide (0<k)=false:=by simp[k0]
    rw[q1] at c0
    rw[q2] at c1
    clear k0 q1 q2
    go_wp2_with fail
   case' inr=>
    have kb:((k:Int)==0)=false:=by rw[beq_eq_false_iff_ne];omega
    have kg:decide (0<k)=true:=by simpa using k0
    have p0:decide (n.parent<0)=false:=by simp;omega
    have p1:decide ((k:Int)≤n.parent)=false:=by simp;omega
    have Q3:=Lib.hid q3
    clear k0 q1 q2 q3
    go_wp2_with (go_at_call 119;refine(refName_any _ _).mono ?_;rintro e w' ⟨rfl,rfl⟩;rw[Q3.out])
   all_goals
    obtain⟨w5,hw5⟩:∃wo,wo=wr:=⟨_,rfl⟩
    rw[←hw5] at HG HPS
    go_loopw [51] (fun i wr=>∃m:Nat,m≤n.props.length∧i= .int .i64 m∧Gr w5 wr) (fun i _=>n.props.length-(intOf i).toNat)
    case atStart=>exact⟨0,Nat.zero_le _,rfl,by rw[hw5];exact(Gr.refl _).alloc _⟩
    case round=>
     clear hw5
     obtain⟨m,hm,rfl,hg⟩:=hrel
     have HJ:=Lib.hid hg
     clear hg
     by_cases hml:m<n.props.length
     ·obtain⟨b2,o2,rfl,d0,d1,l0,l1⟩:=prps_at (HPS.out.gr RPrp.mono HJ.out) m hml
      have PO:=Lib.hid (PP.out.prop _ (List.getElem_mem hml)).1
      have hh2:=has_of_cell d0
      obtain⟨q,hq⟩:∃q,n.props[m]=q:=⟨_,rfl⟩
      rw[hq] at d0 d1 PO
      clear hq l0 l1
      go_wp2_with (go_at_call 120;refine(refProp_ok _ PO.out _).mono ?_;rintro e w' ⟨rfl,rfl⟩)
      go_roundw
      case rel=>exact⟨m+1,by omega,by go_num,HJ.out.alloc _⟩
      case measure=>simp[intOf];omega
     ·go_wp2_with fail
      go_roundw
      case rel=>exact⟨k+1,by omega,by go_num,HG.out.trans HJ.out⟩
      case measure=>simp[intOf];omega
  ·go_wp2_with fail
   go_ret
   exact⟨ret_bool (by simp),HG.out⟩
theorem VT.nod{ts:Tr}(h:VT ts){k:Nat}(h0:0<k)(hk:k<ts.length):ts[k].parent=(pq ts k:Int)∧pq ts k<k∧ts[k].name=nmT ts k:=by
 have h1:=h.par h0 hk
 have h2:=h.shp.par k h0 hk
 unfold nmT
 rw[nd_get hk] at h1 ⊢
 exact⟨h1,h2,rfl⟩
theorem level_ok(ts:Tr)(a:Option Addr)(cap i d:Nat)(w:World)(h:SlOf 3 RNod w a ts)(hv:VT ts)(hi:i<ts.length)(hd:Dep (pq ts) i d)(hd8:d≤100):
  Calls Tryz.prog 96 #[.agg #[.slice a ts.length cap],.int .i64 i] w (Grows w (.int .i64 (d:Nat))):=by
 have H:=Lib.hid h
 have HV:=Lib.hid hv
 have HD:=Lib.hid hd
 have l2:=hv.few
 clear h hv hd
 go_enter Tryz.func96,Tryz.ntmps96
 go_wp2_with fail
 have RX:=Lib.hid (Row.new w #[.slice a ts.length cap] 31)
 obtain⟨W,hW⟩:∃W:World,Hid (W=w.alloc (.cells #[.slice a ts.length cap] 31)):=⟨_,Lib.hid rfl⟩
 have GW:Hid (Gr w W):=Lib.hid (by rw[hW.out];exact(Gr.refl _).alloc _)
 rw[←hW.out] at RX ⊢
 obtain⟨PB,hPB⟩:∃N:Nat,Hid (w.heap.size=N):=⟨_,Lib.hid rfl⟩
 rw[hPB.out] at RX
 (try rw[hPB.out])
 clear hW hPB
 go_loopw [1,5] (fun u n wr=>∃k m e:Nat,k<ts.length∧u= .int .i64 k∧n= .int .i64 m∧Dep (pq ts) k e∧m+e=d∧Gr W wr) (fun u _ _=>(intOf u).toNat)
 case atStart=>exact⟨i,0,d,hi,rfl,rfl,HD.out,by omega,Gr.refl _⟩
 case round=>
  obtain⟨k,m,e,hk,rfl,rfl,hde,hs,hg⟩:=hrel
  have HG:=Lib.hid hg
  have x0:=(RX.out.gr hg).cell 0 (by simp)
  have hx:=has_of_cell x0
  clear hg
  have DE:=Lib.hid hde
  clear hde
  by_cases h0:0<k
  ·obtain⟨b,o,pa,pc,rfl,c0,c1,c2,_⟩:=nods_at (H.out.gr RNod.mono (GW.out.trans HG.out)) k hk
   obtain⟨p1,p2,_⟩:=HV.out.nod h0 hk
   obtain⟨q,hq⟩:∃q:Nat,pq ts k=q:=⟨_,rfl⟩
   have HQ:=Lib.hid hq
   rw[p1,hq] at c0
   rw[hq] at p2
   have hh:=has_of_cell c0
   have HS:=Lib.hid hs
   have k1:(k:Int)<ts.length:=by omega
   have hm:m+1≤1000000:=by omega
   clear p1 hq c1 c2 hs
   go_wp2_with fail
   go_roundw
   case rel=>
    have hde:=DE.out
    cases hde with
    |zero=>omega
    | @succ _ e2 z1 z2=>
     rw[HQ.out] at z2
     exact⟨q,m+1,e2,by omega,rfl,by go_num,z2,by have:=HS.out;omega,HG.out⟩
   case measure=>simp[intOf];omega
  ·obtain rfl:k=0:=by omega
   have e0:e=0:=by
    have hde:=DE.out
    cases hde with
    |zero=>rfl
    |succ z1 z2=>omega
   subst e0
   obtain rfl:m=d:=by omega
   go_wp2_with fail
   go_ret
   exact⟨rfl,GW.out.trans HG.out⟩
inductive Pth (ts:Tr):Nat→St→Prop
 |zero:Pth ts 0 []
 |succ {u:Nat} {s:St}:0<u→Pth ts (pq ts u) s→Pth ts u (s++47::nmT ts u)
theorem pth_ex{ts:Tr}(h:VT ts):∀k,k<ts.length→∃s,Pth ts k s∧s.length≤32*k:=by
 intro k
 induction k using Nat.strongRecOn with
 |ind k ih=>
  intro hk
  by_cases h0:k=0
  ·subst h0;exact⟨[],.zero,by simp⟩
  ·have h2:=h.shp.par k (by omega) hk
   obtain⟨s,hs,hl⟩:=ih (pq ts k) h2 (by omega)
   have hn:=(h.name (show 0<k by omega) hk).2
   exact⟨_,.succ (by omega) hs,by rw[List.length_append,List.length_cons];omega⟩
theorem path_ok(ts:Tr)(a:Option Addr)(cap i:Nat)(s:St)(w:World)(h:SlOf 3 RNod w a ts)(hv:VT ts)(hi:i<ts.length)(hp:Pth ts i s)(hsl:s.length≤100000):
  Calls Tryz.prog 128 #[.agg #[.slice a ts.length cap],.int .i64 i] w (Grows w (.string (bs (if i=0 then [47] else s)))):=by
 have H:=Lib.hid h
 have HV:=Lib.hid hv
 have HP:=Lib.hid hp
 have l2:=hv.few
 clear h hv hp
 by_cases h0:i=0
 ·subst h0
  rw[if_pos rfl]
  go_enter Tryz.func128,Tryz.ntmps128
  go_wp2_with fail
  go_ret
  exact⟨rfl,(Gr.refl _).alloc _⟩
 ·rw[if_neg h0]
  have q0:((i:Int)==0)=false:=by rw[beq_eq_false_iff_ne];omega
  have q1:¬(i:Int)=0:=by omega
  clear h0
  go_enter Tryz.func128,Tryz.ntmps128
  go_wp2_with fail
  have RX:=Lib.hid (Row.new w #[.slice a ts.length cap] 31)
  obtain⟨W,hW⟩:∃W:World,Hid (W=w.alloc (.cells #[.slice a ts.length cap] 31)):=⟨_,Lib.hid rfl⟩
  have GW:Hid (Gr w W):=Lib.hid (by rw[hW.out];exact(Gr.refl _).alloc _)
  rw[←hW.out] at RX ⊢
  obtain⟨PB,hPB⟩:∃N:Nat,Hid (w.heap.size=N):=⟨_,Lib.hid rfl⟩
  rw[hPB.out] at RX
  (try rw[hPB.out])
  clear hW hPB
  go_loopw [1,5] (fun u n wr=>∃(k:Nat) (x y:St),k<ts.length∧u= .int .i64 k∧n= .string (bs y)∧Pth ts k x∧x++y=s∧Gr W wr) (fun u _ _=>(intOf u).toNat)
  case atStart=>exact⟨i,s,[],hi,rfl,rfl,HP.out,by simp,Gr.refl _⟩
  case round=>
   obtain⟨k,x,y,hk,rfl,rfl,hpx,hs,hg⟩:=hrel
   have HG:=Lib.hid hg
   have x0:=(RX.out.gr hg).cell 0 (by simp)
   have hx:=has_of_cell x0
   clear hg
   have PX:=Lib.hid hpx
   have HS:=Lib.hid hs
   clear hpx hs
   by_cases h0:0<k
   ·obtain⟨b,o,pa,pc,rfl,c0,c1,c2,_⟩:=nods_at (H.out.gr RNod.mono (GW.out.trans HG.out)) k hk
    obtain⟨p1,p2,p3⟩:=HV.out.nod h0 hk
    obtain⟨q,hq⟩:∃q:Nat,pq ts k=q:=⟨_,rfl⟩
    obtain⟨nm,hnm⟩:∃n:St,nmT ts k=n:=⟨_,rfl⟩
    have HQ:=Lib.hid hq
    have HN:=Lib.hid hnm
    rw[p1,hq] at c0
    rw[p3,hnm] at c1
    rw[hq] at p2
    have hh:=has_of_cell c0
    have k1:(k:Int)<ts.length:=by omega
    have nl:nm.length≤31:=by rw[←hnm];exact(HV.out.name h0 hk).2
    have yl:y.length≤100000:=by have:=congrArg List.length HS.out;rw[List.length_append] at this;omega
    clear p1 p3 hq hnm c2
    go_wp2_with fail
    go_roundw
    case rel=>
     have hpx:=PX.out
     cases hpx with
     |zero=>omega
     | @succ _ s2 z1 z2=>
      rw[HQ.out] at z2
      refine⟨q,s2,47::(nm++y),by omega,rfl,by simp,z2,?_,HG.out⟩
      rw[←HS.out,HN.out];simp
    case measure=>simp[intOf];omega
   ·obtain rfl:k=0:=by omega
    have e0:x= []:=by
     have hpx:=PX.out
     cases hpx with
     |zero=>rfl
     |succ z1 z2=>omega
    subst e0
    have e1:y=s:=by have:=HS.out;simpa using this
    subst e1
    go_wp2_with fail
    go_ret
    exact⟨rfl,GW.out.trans HG.out⟩
def ints(l:List Nat):List Value:=nums (l.map Int.ofNat)
theorem ints_len(l:List Nat):(ints l).length=l.length:=by simp[ints,nums]
theorem ints_one(l:List Nat):∀u∈ints l,u.oneCell'=true:=nums_one _
theorem ints_get{l:List Nat}{k:Nat}(h:k<l.length):(ints l)[k]?=some (.int .i64 (l[k]:Nat)):=by
 unfold ints nums
 rw[List.getElem?_map,List.getElem?_map,List.getElem?_eq_getElem h];rfl
theorem ints_drop(l:List Nat)(k:Nat):ints (l.drop k)=(ints l).drop k:=by simp[ints,nums,List.map_drop]
theorem ints_app(l m:List Nat):ints (l++m)=ints l++ints m:=by simp[ints,nums]
theorem owns_newN(w:World)(xs:List Nat)(arr:Array Value)(ha:arr.toList=ints xs)(T:TypeId)(base B n:Nat)(hn:xs.length=n)(hB:w.heap.size=B)(hb:base≤B)(hm:n≤1000000):
  (w.alloc (.cells arr T)).ownsRow base T 1 (.slice (some ⟨B,0,none⟩) n n) n (ints xs):=by
 subst hB hn
 have hl:arr.size=xs.length:=by rw[←Array.length_toList,ha,ints_len]
 refine⟨by rw[ints_len];omega,.inr ⟨w.heap.size,xs.length,arr,rfl,hb,heap_alloc_new w _,Nat.le_refl _,by unfold maxLen;omega,by omega,?_⟩⟩
 rw[ha,Nat.mul_one,List.take_of_length_le (by rw[ints_len];exact Nat.le_refl _)]
structure ParOk(u:Tr):Prop where
 few:u.length≤1000
 par:∀i (h:i<u.length),0<i→u[i].parent=(pq u i:Int)∧pq u i<i
theorem nmT_get{u:Tr}{i:Nat}(h:i<u.length):u[i].name=nmT u i:=by unfold nmT;rw[nd_get h]
theorem insC_at{nm:Nat→St}{cs:List Nat}{i k:Nat}(hk:k≤cs.length)(hlow:∀j (hj:j<k) (hjl:j<cs.length),ltS (nm i) (nm cs[j])=false)(hup:∀(h:k<cs.length),ltS (nm i) (nm cs[k])=true):insC nm cs i=cs.take k++i::cs.drop k:=by
 unfold insC
 have key:∀(cs:List Nat) (k:Nat),k≤cs.length→(∀j (hj:j<k) (hjl:j<cs.length),ltS (nm i) (nm cs[j])=false)→(∀(h:k<cs.length),ltS (nm i) (nm cs[k])=true)→cs.takeWhile (fun c=>!ltS (nm i) (nm c))=cs.take k∧cs.dropWhile (fun c=>!ltS (nm i) (nm c))=cs.drop k:=by
  intro cs
  induction cs with
  |nil=>intro k hk _ _;simp at hk;subst hk;exact⟨rfl,rfl⟩
  |cons c cs ih=>
   intro k hk h1 h2
   cases k with
   |zero=>
    have:=h2 (by simp)
    simp only[List.getElem_cons_zero] at this
    rw[List.takeWhile_cons,List.dropWhile_cons,this]
    exact⟨rfl,rfl⟩
   |succ k=>
    have h0:=h1 0 (by omega) (by simp)
    simp only[List.getElem_cons_zero] at h0
    have:=ih k (by simpa using hk) (fun j hj hjl=>by have:=h1 (j+1) (by omega) (by simpa using hjl);simpa using this) (fun h=>by have:=h2 (by simpa using h);simpa using this)
    rw[List.takeWhile_cons,List.dropWhile_cons,h0]
    simp only[Bool.not_false,if_true]
    rw[this.1,this.2]
    exact⟨rfl,rfl⟩
 rw[(key cs k hk hlow hup).1,(key cs k hk hlow hup).2]
theorem chl_len(q:Nat→Nat)(nm:Nat→St)(x:Nat):∀m,(chl q nm x m).length≤m:=by
 intro m
 induction m with
 |zero=>simp[chl]
 |succ m ih=>
  rw[chl]
  split
  ·unfold insC
   have:=congrArg List.length (List.takeWhile_append_dropWhile (p:=fun c=>!ltS (nm m) (nm c)) (l:=chl q nm x m))
   rw[List.length_append] at this
   rw[List.length_append,List.length_cons];omega
  ·omega
theorem walkF_pos(n:Nat)(q:Nat→Nat)(nm:Nat→St)(f x:Nat):1≤(walkF n q nm f x).length:=by
 cases f<;>simp[walkF]
theorem owns_cap2{w:World}{base e size n c:Nat}{a:Option Addr}{xs:List Value}(h:w.ownsRow base e size (.slice a n c) n xs):n≤c:=by
 rcases h.2 with⟨q,z⟩|⟨g,cap,cur,q,_,_,z,_⟩
 ·cases q;omega
 ·cases q;exact z
def GivesL(w:World)(l:List Nat)(e:Ending)(w':World):Prop:=∃v,e= .returned v∧w'.ownsRow w.heap.size 3 1 v l.length (ints l)∧Gr w w'
theorem walk_ok(u:Tr)(hu:ParOk u)(hW:∀f x,u.length≤f+x→x<u.length→(walkF u.length (pq u) (nmT u) f x).length≤1000):∀f x,u.length≤f+x→x<u.length→∀(a:Option Addr) (cap:Nat) (w:World),SlOf 3 RNod w a u→
  Calls Tryz.prog 127 #[.agg #[.slice a u.length cap],.int .i64 x] w (GivesL w (walkF u.length (pq u) (nmT u) f x)):=by
 intro f
 induction f with
 |zero=>intro x h1 h2;omega
 |succ f ih=>
  intro x hfx hx a cap w h
  have H:=Lib.hid h
  have IH:=Lib.hid ih
  have HU:=Lib.hid hu
  have HWL:=Lib.hid hW
  have few:=hu.few
  clear h ih hu hW
  obtain⟨P0,hP0⟩:∃P,P=GivesL w (walkF u.length (pq u) (nmT u) (f+1) x):=⟨_,rfl⟩
  rw[←hP0]
  have HP0:=Lib.hid hP0
  clear hP0
  obtain⟨i0,hi,hz0,hz1,hz2⟩:=info_parts infoInt
  go_enter Tryz.func127,Tryz.ntmps127
  have RX:=Lib.hid ((Row.new w #[.slice a u.length cap] 31).alloc (.cells #[.int .i64 (x:Int)] 3))
  have O0:=Lib.hid (owns_newN (w.alloc (.cells #[.slice a u.length cap] 31)) [x] #[.int .i64 (x:Int)] rfl 3 w.heap.size _ 1 rfl rfl (by simp) (by omega))
  go_wp2_with fail
  obtain⟨W,hWd⟩:∃W:World,Hid (W=(w.alloc (.cells #[.slice a u.length cap] 31)).alloc (.cells #[.int .i64 (x:Int)] 3)):=⟨_,Lib.hid rfl⟩
  have GW:Hid (Gr w W):=Lib.hid (by rw[hWd.out];exact((Gr.refl _).alloc _).alloc _)
  have hs1:(w.alloc (.cells #[.slice a u.length cap] 31)).heap.size=w.heap.size+1:=by simp
  rw[hs1] at O0
  rw[←hWd.out] at RX O0 ⊢
  obtain⟨PB,hPB⟩:∃N:Nat,Hid (w.heap.size=N):=⟨_,Lib.hid rfl⟩
  have HPB:=Lib.hid hPB.out
  rw[hPB.out] at RX O0 ⊢
  clear hWd hPB hs1
  obtain⟨n,hn⟩:∃n,u.length=n:=⟨_,rfl⟩
  have NL:=Lib.hid hn
  rw[hn] at RX hfx hx few ⊢
  clear hn
  go_loopw [18,6] (fun i v wr=>∃k:Nat,k≤n∧i= .int .i64 k∧wr.ownsRow PB 3 1 v (chl (pq u) (nmT u) x k).length (ints (chl (pq u) (nmT u) x k))∧(v.ownBlock=none∨v.ownBlock≠some (PB+1))∧Gr W wr) (fun i _ _=>n-(intOf i).toNat)
  case atStart=>exact⟨0,Nat.zero_le _,rfl,World.ownsRow_nil _ _ _ _,.inl rfl,Gr.refl _⟩
  case round=>
   obtain⟨k,hk,rfl,how,hap,hg⟩:=hrel
   have OW:=Lib.hid how
   have AP:=Lib.hid hap
   have HG:=Lib.hid hg
   obtain⟨va,vc,hv⟩:=owns_slice how
   have x0:=(RX.out.gr hg).cell 0 (by simp)
   have hxb:=has_of_cell x0
   clear how hap hg
   by_cases hlt:k<n
   ·have hku:k<u.length:=by rw[NL.out];exact hlt
    obtain⟨b,o,pa,pc,rfl,c0,c1,c2,hps,hpf,hw,hnl⟩:=nods_at (H.out.gr RNod.mono (GW.out.trans HG.out)) k hku
    have PK:=Lib.hid (HU.out.par k hku)
    rw[nmT_get hku] at c1
    obtain⟨pp,hpp⟩:∃p,u[k].parent=p:=⟨_,rfl⟩
    obtain⟨pl,hpl⟩:∃p,u[k].props.length=p:=⟨_,rfl⟩
    obtain⟨nk,hnk⟩:∃p,nmT u k=p:=⟨_,rfl⟩
    have NK:=Lib.hid hnk
    rw[hpp] at c0 PK
    rw[hpl] at c2
    rw[hnk] at c1
    have kn:(k:Int)<n:=by omega
    have hh:=has_of_cell c0
    clear hpp hpl hnk hps hpf hw hnl
    by_cases k0:k=0
    ·have kb:((k:Int)==0)=true:=by rw[beq_iff_eq];omega
     have CS:=Lib.hid (show chl (pq u) (nmT u) x (k+1)=chl (pq u) (nmT u) x k by rw[chl,if_neg (fun h=>h.1 k0)])
     clear k0
     by_cases hpx:pp=x
     ·have b1:(pp==(x:Int))=true:=by rw[beq_iff_eq];exact hpx
      have b2:(pp !=(x:Int))=false:=by rw[bne_eq_false_iff_eq];exact hpx
      clear hpx
      go_wp2_with fail
      go_roundw
      case rel=>exact⟨k+1,by omega,by go_num,by rw[CS.out];exact Gr.owns OW.out ((Gr.refl _).alloc _),AP.out,HG.out.alloc _⟩
      case measure=>simp[intOf];omega
     ·have b1:(pp==(x:Int))=false:=by rw[beq_eq_false_iff_ne];exact hpx
      have b2:(pp !=(x:Int))=true:=by rw[bne_iff_ne];exact hpx
      clear hpx
      go_wp2_with fail
      go_roundw
      case rel=>exact⟨k+1,by omega,by go_num,by rw[CS.out];exact Gr.owns OW.out ((Gr.refl _).alloc _),AP.out,HG.out.alloc _⟩
      case measure=>simp[intOf];omega
    ·have kb:((k:Int)==0)=false:=by rw[beq_eq_false_iff_ne];omega
     have kp:0<k:=by omega
     obtain⟨p1,p2⟩:=PK.out kp
     by_cases hq:pq u k=x
     ·have CS:=Lib.hid (show chl (pq u) (nmT u) x (k+1)=insC (nmT u) (chl (pq u) (nmT u) x k) k by rw[chl,if_pos ⟨k0,hq⟩])
      have CM:Hid (∀c∈chl (pq u) (nmT u) x k,c<n∧c≠0):=Lib.hid (fun c hc=>by have:=(mem_chl k).1 hc;exact⟨by omega,this.2.1⟩)
      have CL:=chl_len (pq u) (nmT u) x k
      obtain⟨cs,hcs⟩:∃cs,chl (pq u) (nmT u) x k=cs:=⟨_,rfl⟩
      rw[hcs] at OW CS CM CL hv
      have hpx:pp=x:=by rw[p1,hq]
      have b1:(pp==(x:Int))=true:=by rw[beq_iff_eq];exact hpx
      have b2:(pp !=(x:Int))=false:=by rw[bne_eq_false_iff_eq];exact hpx
      have BX:=Lib.hid (Row.new wr #[.int .i64 pp,.string (bs nk),.slice pa pl pc] 55)
      clear k0 p1 p2 hq hpx hcs PK
      subst hv
      go_wp2_with fail
      obtain⟨W4,hW4⟩:∃W:World,Hid (W=wr.alloc (.cells #[.int .i64 pp,.string (bs nk),.slice pa pl pc] 55)):=⟨_,Lib.hid rfl⟩
      have G4:Hid (Gr wr W4):=Lib.hid (by rw[hW4.out];exact(Gr.refl _).alloc _)
      rw[←hW4.out] at BX ⊢
      obtain⟨PX,hPX⟩:∃N:Nat,Hid (wr.heap.size=N):=⟨_,Lib.hid rfl⟩
      rw[hPX.out] at BX ⊢
      have HG4:=Lib.hid (HG.out.trans G4.out)
      have OW4:=Lib.hid (Gr.owns OW.out G4.out)
      have SC:Hid (∀wz,Gr W4 wz→∀j (hj:j<cs.length),∃g,va=some ⟨g,0,none⟩∧wz.cell? ⟨g,j,none⟩=some (.int .i64 (cs[j]:Nat))):=Lib.hid (fun wz hz j hj=>by
       obtain⟨g,cap2,e1,_,_,hc⟩:=owns_cell (Gr.owns OW4.out hz) (by omega)
       cases e1
       exact⟨g,rfl,by rw[hc j (by omega),ints_get hj]⟩)
      have e4:Gr wr W4:=G4.out
      clear hW4 hPX c0 c1 c2 hh x0 hxb e4
      go_loopw [9] (fun i wq=>∃j:Nat,j≤cs.length∧i= .int .i64 j∧(∀m (hm:m<j) (hml:m<cs.length),ltS nk (nmT u cs[m])=false)∧Gr W4 wq) (fun i _=>cs.length-(intOf i).toNat)
      case atStart=>exact⟨0,Nat.zero_le _,rfl,fun m hm=>absurd hm (by omega),Gr.refl _⟩
      case round=>
       obtain⟨j,hj,rfl,hall,hgq⟩:=hrel
       have HA:=Lib.hid hall
       have HQ:=Lib.hid hgq
       have x0:=(RX.out.gr (HG4.out.trans hgq)).cell 0 (by simp)
       have hxb:=has_of_cell x0
       have y1:=(BX.out.gr hgq).cell 1 (by simp)
       have hyb:=has_of_cell y1
       clear hall hgq
       by_cases hjl:j<cs.length
       ·obtain⟨g,rfl,d0⟩:=SC.out _ HQ.out j hjl
        have hd0:=has_of_cell d0
        have CJ:=Lib.hid (CM.out _ (List.getElem_mem hjl))
        obtain⟨cj,hcj⟩:∃c,cs[j]'hjl=c:=⟨_,rfl⟩
        have HCJ:=Lib.hid hcj
        rw[hcj] at d0 CJ
        have cju:cj<u.length:=by rw[NL.out];exact CJ.out.1
        obtain⟨b5,o5,pa5,pc5,e5,f0,f1,f2,_⟩:=nods_at (H.out.gr RNod.mono (GW.out.trans (HG4.out.trans HQ.out))) cj cju
        cases e5
        rw[nmT_get cju] at f1
        obtain⟨nj,hnj⟩:∃c,nmT u cj=c:=⟨_,rfl⟩
        have HNJ:=Lib.hid hnj
        rw[hnj] at f1
        have hf0:=has_of_cell f0
        have cn:(cj:Int)<n:=by have:=CJ.out.1;omega
        have cn2:cj<n:=CJ.out.1
        have jj:(j:Int)<cs.length:=by omega
        clear hcj hnj f0 f2
        by_cases hlt2:ltS nk nj=true
        ·have q1:(Op.bytesLess nj nk||nj==nk)=false:=by
          have h1:=vlt_not hlt2
          unfold ltS at h1
          rw[h1,Bool.false_or,beq_eq_false_iff_ne]
          exact fun e=>vlt_ne hlt2 e.symm
         have UP:=Lib.hid hlt2
         have INS:Hid (insC (nmT u) cs k=cs.take j++k::cs.drop j):=Lib.hid (insC_at (by omega) (fun m hm hml=>by rw[NK.out];exact HA.out m hm hml) (fun h=>by rw[NK.out,HCJ.out,HNJ.out];exact UP.out))
         clear hlt2 UP
         go_wp2_with fail
         go_quiet (fail)
         go_upto_region 10 with(fail)
         obtain⟨w2,hw2⟩:∃W:World,Hid (wr.drewN nq=W):=⟨_,Lib.hid rfl⟩
         have GQ:Hid (Gr W4 w2):=Lib.hid (by rw[←hw2.out];exact HQ.out.drewN _)
         rw[hw2.out]
         have O2:=Lib.hid (Gr.owns OW4.out GQ.out)
         have BXs:Hid (Gr W w2):=Lib.hid (HG4.out.trans GQ.out)
         have y0:=owns_cap2 O2.out
         obtain⟨ml,hml⟩:∃m,cs.length=m:=⟨_,rfl⟩
         have ML:=Lib.hid hml
         clear x0 hxb y1 hyb hw2 jj hd0 d0
         rw[hml] at O2 y0 hj CL ⊢
         clear hml
         have y3:(ml:Int)≤vc:=by omega
         have y4:(j:Int)≤vc:=by omega
         have y5:(j:Int)≤ml:=by omega
         have F2:Hid (((some ⟨g,0,none⟩:Option Addr)=none∧ml=0∧vc=0)∨∃g',(some ⟨g,0,none⟩:Option Addr)=some ⟨g',0,none⟩):=Lib.hid (by
          obtain⟨h0,⟨q,h1⟩|⟨g,cap,cur,q,_⟩⟩:=O2.out
          ·simp at q
          ·exact .inr ⟨_,rfl⟩)
         go_cut [10] (fun v wx=>wx.ownsRow w2.heap.size 3 1 v (1+(ml-j)) (ints (k::cs.drop j))∧Gr w2 wx)
         case first=>
          rcases F2.out with⟨h,_,_⟩|⟨g',h⟩
          ·cases h
          ·cases h
           by_cases hkm:j<ml
           ·have hkm':(j:Int)<ml:=by omega
            have S6:Hid (Gets (w2.alloc (.cells #[.int .i64 (k:Int)] 3)) (some ⟨g,j,none⟩) (ml-j) 1 (ints (cs.drop j))):=Lib.hid (by
             refine⟨by rw[ints_len,List.length_drop,ML.out];omega,fun _=>⟨_,rfl,fun i u hu=>?_⟩⟩
             rw[ints_drop,List.getElem?_drop] at hu
             obtain⟨hj2,_⟩:=List.getElem?_eq_some_iff.1 hu
             rw[ints_len] at hj2
             obtain⟨g2,e2,q⟩:=SC.out _ (GQ.out.alloc (.cells #[.int .i64 (k:Int)] 3)) (j+i) hj2
             cases e2
             rw[ints_get hj2] at hu
             rw[Addr.add_lit,q,hu])
            go_wp2_with (at_builtin;refine wpList_append_gets _ rfl _ _ 38 rfl w2.heap.size 3 i0 (.int .i64 0) 1 8 Tryz.underlying38 hi hz0 hz1 hz2 rfl (by decide) (.slice (some ⟨w2.heap.size,0,none⟩) 1 1) 1 (ints [k]) rfl (owns_newN w2 [k] _ rfl _ _ _ 1 rfl rfl (Nat.le_refl _) (by omega)) (some ⟨g,j,none⟩) (ml-j) (vc-j) (ints (cs.drop j)) rfl S6.out (ints_one _) (by unfold maxLen;omega) (by omega) (by simp) ?_;intro v1 w3 hown hgrow hloc;have O3:=Lib.hid hown;have G3:Hid (Gr w2 w3):=Lib.hid (((Gr.refl w2).alloc _).grown hgrow (fun k e=>by cases e;exact Nat.le_refl _));clear hown hgrow hloc)
            go_meet
            exact⟨by have:=O3.out;simpa [ints,nums] using this,G3.out⟩
           ·obtain rfl:j=ml:=by omega
            have DZ:Hid (cs.drop j= []):=Lib.hid (by rw[List.drop_eq_nil_iff,ML.out];exact Nat.le_refl _)
            by_cases hmc:j<vc
            ·have hmc':(j:Int)<vc:=by omega
             go_wp2_with (at_builtin;refine wpList_append_gets _ rfl _ _ 38 rfl w2.heap.size 3 i0 (.int .i64 0) 1 8 Tryz.underlying38 hi hz0 hz1 hz2 rfl (by decide) (.slice (some ⟨w2.heap.size,0,none⟩) 1 1) 1 (ints [k]) rfl (owns_newN w2 [k] _ rfl _ _ _ 1 rfl rfl (Nat.le_refl _) (by omega)) (some ⟨g,j,none⟩) 0 (vc-j) (ints []) rfl ⟨rfl,fun h=>absurd rfl h⟩ (ints_one _) (by unfold maxLen;omega) (by omega) (by simp) ?_;intro v1 w3 hown hgrow hloc;have O3:=Lib.hid hown;have G3:Hid (Gr w2 w3):=Lib.hid (((Gr.refl w2).alloc _).grown hgrow (fun k e=>by cases e;exact Nat.le_refl _));clear hown hgrow hloc)
             go_meet
             exact⟨by have:=O3.out;rw[DZ.out];simpa [ints,nums] using this,G3.out⟩
            ·obtain rfl:vc=j:=by omega
             go_wp2_with (at_builtin;refine wpList_append_gets _ rfl _ _ 38 rfl w2.heap.size 3 i0 (.int .i64 0) 1 8 Tryz.underlying38 hi hz0 hz1 hz2 rfl (by decide) (.slice (some ⟨w2.heap.size,0,none⟩) 1 1) 1 (ints [k]) rfl (owns_newN w2 [k] _ rfl _ _ _ 1 rfl rfl (Nat.le_refl _) (by omega)) (some ⟨g,0,none⟩) 0 0 (ints []) rfl ⟨rfl,fun h=>absurd rfl h⟩ (ints_one _) (by unfold maxLen;omega) (by omega) (by simp) ?_;intro v1 w3 hown hgrow hloc;have O3:=Lib.hid hown;have G3:Hid (Gr w2 w3):=Lib.hid (((Gr.refl w2).alloc _).grown hgrow (fun k e=>by cases e;exact Nat.le_refl _));clear hown hgrow hloc)
             go_meet
             exact⟨by have:=O3.out;rw[DZ.out];simpa [ints,nums] using this,G3.out⟩
         obtain⟨ho3,hg3⟩:=hcut
         obtain⟨g1,c1,rfl,hc1,_,hcell⟩:=owns_cell ho3 (by omega)
         have P7:Hid (∀bb,(some ⟨g,0,none⟩:Option Addr)=some bb→∀i u,(ints (cs.take j))[i]?=some u→wc.cell? (bb.add i)=some u):=Lib.hid (by
          intro bb hbb i u hu
          obtain⟨hi2,hu⟩:=List.getElem?_eq_some_iff.1 hu
          have hj2:i<j∧i<cs.length:=by have:=hi2;rw[ints_len,List.length_take] at this;omega
          obtain⟨g2,e2,q⟩:=SC.out _ (GQ.out.trans hg3) i hj2.2
          have e3:=hbb.symm.trans e2
          cases e3
          rw[Addr.add_lit,Nat.zero_add,q,←hu]
          have h9:=ints_get (l:=cs.take j) (k:=i) (by rw[List.length_take];omega)
          rw[List.getElem?_eq_getElem (by rw[ints_len,List.length_take];omega)] at h9
          rw[Option.some.inj h9,List.getElem_take])
         have Q7:Hid (∀i u,(ints (k::cs.drop j))[i]?=some u→wc.cell? ((⟨g1,0,none⟩:Addr).add i)=some u):=Lib.hid (by
          intro i u hu
          obtain⟨hi2,_⟩:=List.getElem?_eq_some_iff.1 hu
          have hj2:i<(1+(ml-j))*1:=by have:=hi2;rw[ints_len,List.length_cons,List.length_drop,ML.out] at this;omega
          rw[Addr.add_lit,Nat.zero_add,hcell i hj2,hu])
         have A7:Hid ((some ⟨g,0,none⟩:Option Addr)=none→j=0∧j=0):=Lib.hid fun q=>by cases q
         have SZ:Hid (PB+1<wc.heap.size):=Lib.hid (by
          have h1:=hg3.size;have h2:=BXs.out.size;have h3:=owns_block O0.out (PB+1) rfl;omega)
         have BC:=Lib.hid (BXs.out.trans hg3)
         have hlen2:Hid (j+(1+(ml-j))=(insC (nmT u) cs k).length):=Lib.hid (by
          rw[INS.out,List.length_append,List.length_cons,List.length_take,List.length_drop,ML.out];omega)
         have hint:Hid (ints (cs.take j)++ints (k::cs.drop j)=ints (insC (nmT u) cs k)):=Lib.hid (by rw[INS.out,ints_app])
         have TL:Hid ((ints (cs.take j)).length=j*1):=Lib.hid (by rw[ints_len,List.length_take,ML.out];omega)
         have DL:Hid ((ints (k::cs.drop j)).length=(1+(ml-j))*1):=Lib.hid (by rw[ints_len,List.length_cons,List.length_drop,ML.out];omega)
         rcases F2.out with⟨h,_,_⟩|⟨g',h⟩
         ·cases h
         ·cases h
          go_wp2_with (at_builtin;refine wpList_append_grows _ rfl _ _ 38 rfl 3 i0 (.int .i64 0) 1 8 Tryz.underlying38 hi hz0 hz1 hz2 rfl (by decide) (some ⟨g,0,none⟩) j j (ints (cs.take j)) rfl A7.out TL.out P7.out ⟨g1,0,none⟩ (1+(ml-j)) c1 (ints (k::cs.drop j)) rfl DL.out Q7.out (ints_one _) (by omega) (by unfold maxLen;omega) (by omega) ?_;intro v2 w4 hown hgrow;have O4:=Lib.hid hown;have G5:=Lib.hid hgrow;clear hown hgrow)
          go_roundw
          case rel=>
           refine⟨k+1,by omega,by go_num,?_,?_,BC.out.trans ((Gr.refl _).grown G5.out (fun k e=>by cases e))⟩
           ·rw[CS.out,←hlen2.out,←hint.out]
            exact owns_low O4.out (by have:=SZ.out;omega)
           ·refine .inr (fun e=>?_)
            have:=owns_block O4.out _ e
            have:=SZ.out
            omega
          case measure=>simp[intOf];omega
        ·rw[Bool.not_eq_true] at hlt2
         have q1:(Op.bytesLess nj nk||nj==nk)=true:=by
          rcases vlt_tot nj nk with h1|h1|h1
          ·unfold ltS at h1;rw[h1,Bool.true_or]
          ·subst h1;simp
          ·rw[h1] at hlt2;cases hlt2
         have LO:=Lib.hid hlt2
         clear hlt2
         go_wp2_with fail
         go_quiet (fail)
         go_wp2_with fail
         go_roundw
         case rel=>
          refine⟨j+1,by omega,by go_num,fun m hm hml=>?_,HQ.out.drewN _⟩
          by_cases e:m=j
          ·subst e;rw[HCJ.out,HNJ.out];exact LO.out
          ·exact HA.out m (by omega) hml
         case measure=>simp[intOf];omega
       ·have INS:Hid (insC (nmT u) cs k=cs.take j++k::cs.drop j):=Lib.hid (insC_at (by omega) (fun m hm hml=>by rw[NK.out];exact HA.out m hm hml) (fun h=>absurd h hjl))
        have jj:¬(j:Int)<cs.length:=by omega
        go_wp2_with fail
        go_quiet (fail)
        go_upto_region 10 with(fail)
        obtain⟨w2,hw2⟩:∃W:World,Hid (wr.drewN nq=W):=⟨_,Lib.hid rfl⟩
        have GQ:Hid (Gr W4 w2):=Lib.hid (by rw[←hw2.out];exact HQ.out.drewN _)
        rw[hw2.out]
        have O2:=Lib.hid (Gr.owns OW4.out GQ.out)
        have BXs:Hid (Gr W w2):=Lib.hid (HG4.out.trans GQ.out)
        have y0:=owns_cap2 O2.out
        obtain⟨ml,hml⟩:∃m,cs.length=m:=⟨_,rfl⟩
        have ML:=Lib.hid hml
        clear x0 hxb y1 hyb hw2 hjl jj
        rw[hml] at O2 y0 hj CL ⊢
        clear hml
        have y3:(ml:Int)≤vc:=by omega
        have y4:(j:Int)≤vc:=by omega
        have y5:(j:Int)≤ml:=by omega
        have F2:Hid ((va=none∧ml=0∧vc=0)∨∃g,va=some ⟨g,0,none⟩):=Lib.hid (by
         obtain⟨h0,⟨q,h1⟩|⟨g,cap,cur,q,_⟩⟩:=O2.out
         ·simp only[Value.slice.injEq] at q;exact .inl ⟨q.1,h1,q.2.2⟩
         ·simp only[Value.slice.injEq] at q;exact .inr ⟨g,q.1⟩)
        go_cut [10] (fun v wx=>wx.ownsRow w2.heap.size 3 1 v (1+(ml-j)) (ints (k::cs.drop j))∧Gr w2 wx)
        case first=>
         rcases F2.out with⟨rfl,rfl,rfl⟩|⟨g,rfl⟩
         ·obtain rfl:j=0:=by omega
          obtain rfl:cs= []:=List.eq_nil_of_length_eq_zero ML.out
          go_wp2_with fail
          go_meet
          exact⟨owns_newN w2 [k] _ rfl _ _ _ 1 rfl rfl (Nat.le_refl _) (by omega),(Gr.refl _).alloc _⟩
         ·by_cases hkm:j<ml
          ·have hkm':(j:Int)<ml:=by omega
           have S6:Hid (Gets (w2.alloc (.cells #[.int .i64 (k:Int)] 3)) (some ⟨g,j,none⟩) (ml-j) 1 (ints (cs.drop j))):=Lib.hid (by
            refine⟨by rw[ints_len,List.length_drop,ML.out];omega,fun _=>⟨_,rfl,fun i u hu=>?_⟩⟩
            rw[ints_drop,List.getElem?_drop] at hu
            obtain⟨hj2,_⟩:=List.getElem?_eq_some_iff.1 hu
            rw[ints_len] at hj2
            obtain⟨g2,e2,q⟩:=SC.out _ (GQ.out.alloc (.cells #[.int .i64 (k:Int)] 3)) (j+i) hj2
            cases e2
            rw[ints_get hj2] at hu
            rw[Addr.add_lit,q,hu])
           go_wp2_with (at_builtin;refine wpList_append_gets _ rfl _ _ 38 rfl w2.heap.size 3 i0 (.int .i64 0) 1 8 Tryz.underlying38 hi hz0 hz1 hz2 rfl (by decide) (.slice (some ⟨w2.heap.size,0,none⟩) 1 1) 1 (ints [k]) rfl (owns_newN w2 [k] _ rfl _ _ _ 1 rfl rfl (Nat.le_refl _) (by omega)) (some ⟨g,j,none⟩) (ml-j) (vc-j) (ints (cs.drop j)) rfl S6.out (ints_one _) (by unfold maxLen;omega) (by omega) (by simp) ?_;intro v1 w3 hown hgrow hloc;have O3:=Lib.hid hown;have G3:Hid (Gr w2 w3):=Lib.hid (((Gr.refl w2).alloc _).grown hgrow (fun k e=>by cases e;exact Nat.le_refl _));clear hown hgrow hloc)
           go_meet
           exact⟨by have:=O3.out;simpa [ints,nums] using this,G3.out⟩
          ·obtain rfl:j=ml:=by omega
           have DZ:Hid (cs.drop j= []):=Lib.hid (by rw[List.drop_eq_nil_iff,ML.out];exact Nat.le_refl _)
           by_cases hmc:j<vc
           ·have hmc':(j:Int)<vc:=by omega
            go_wp2_with (at_builtin;refine wpList_append_gets _ rfl _ _ 38 rfl w2.heap.size 3 i0 (.int .i64 0) 1 8 Tryz.underlying38 hi hz0 hz1 hz2 rfl (by decide) (.slice (some ⟨w2.heap.size,0,none⟩) 1 1) 1 (ints [k]) rfl (owns_newN w2 [k] _ rfl _ _ _ 1 rfl rfl (Nat.le_refl _) (by omega)) (some ⟨g,j,none⟩) 0 (vc-j) (ints []) rfl ⟨rfl,fun h=>absurd rfl h⟩ (ints_one _) (by unfold maxLen;omega) (by omega) (by simp) ?_;intro v1 w3 hown hgrow hloc;have O3:=Lib.hid hown;have G3:Hid (Gr w2 w3):=Lib.hid (((Gr.refl w2).alloc _).grown hgrow (fun k e=>by cases e;exact Nat.le_refl _));clear hown hgrow hloc)
            go_meet
            exact⟨by have:=O3.out;rw[DZ.out];simpa [ints,nums] using this,G3.out⟩
           ·obtain rfl:vc=j:=by omega
            go_wp2_with (at_builtin;refine wpList_append_gets _ rfl _ _ 38 rfl w2.heap.size 3 i0 (.int .i64 0) 1 8 Tryz.underlying38 hi hz0 hz1 hz2 rfl (by decide) (.slice (some ⟨w2.heap.size,0,none⟩) 1 1) 1 (ints [k]) rfl (owns_newN w2 [k] _ rfl _ _ _ 1 rfl rfl (Nat.le_refl _) (by omega)) (some ⟨g,0,none⟩) 0 0 (ints []) rfl ⟨rfl,fun h=>absurd rfl h⟩ (ints_one _) (by unfold maxLen;omega) (by omega) (by simp) ?_;intro v1 w3 hown hgrow hloc;have O3:=Lib.hid hown;have G3:Hid (Gr w2 w3):=Lib.hid (((Gr.refl w2).alloc _).grown hgrow (fun k e=>by cases e;exact Nat.le_refl _));clear hown hgrow hloc)
            go_meet
            exact⟨by have:=O3.out;rw[DZ.out];simpa [ints,nums] using this,G3.out⟩
        obtain⟨ho3,hg3⟩:=hcut
        obtain⟨g1,c1,rfl,hc1,_,hcell⟩:=owns_cell ho3 (by omega)
        have P7:Hid (∀bb,va=some bb→∀i u,(ints (cs.take j))[i]?=some u→wc.cell? (bb.add i)=some u):=Lib.hid (by
         intro bb hbb i u hu
         obtain⟨hi2,hu⟩:=List.getElem?_eq_some_iff.1 hu
         have hj2:i<j∧i<cs.length:=by have:=hi2;rw[ints_len,List.length_take] at this;omega
         obtain⟨g2,e2,q⟩:=SC.out _ (GQ.out.trans hg3) i hj2.2
         have e3:=hbb.symm.trans e2
         cases e3
         rw[Addr.add_lit,Nat.zero_add,q,←hu]
         have h9:=ints_get (l:=cs.take j) (k:=i) (by rw[List.length_take];omega)
         rw[List.getElem?_eq_getElem (by rw[ints_len,List.length_take];omega)] at h9
         rw[Option.some.inj h9,List.getElem_take])
        have Q7:Hid (∀i u,(ints (k::cs.drop j))[i]?=some u→wc.cell? ((⟨g1,0,none⟩:Addr).add i)=some u):=Lib.hid (by
         intro i u hu
         obtain⟨hi2,_⟩:=List.getElem?_eq_some_iff.1 hu
         have hj2:i<(1+(ml-j))*1:=by have:=hi2;rw[ints_len,List.length_cons,List.length_drop,ML.out] at this;omega
         rw[Addr.add_lit,Nat.zero_add,hcell i hj2,hu])
        have A7:Hid (va=none→j=0∧j=0):=Lib.hid fun q=>by
         rcases F2.out with⟨_,h,_⟩|⟨g,h⟩
         ·omega
         ·rw[q] at h;cases h
        have SZ:Hid (PB+1<wc.heap.size):=Lib.hid (by
         have h1:=hg3.size;have h2:=BXs.out.size;have h3:=owns_block O0.out (PB+1) rfl;omega)
        have BC:=Lib.hid (BXs.out.trans hg3)
        have hlen2:Hid (j+(1+(ml-j))=(insC (nmT u) cs k).length):=Lib.hid (by
         rw[INS.out,List.length_append,List.length_cons,List.length_take,List.length_drop,ML.out];omega)
        have hint:Hid (ints (cs.take j)++ints (k::cs.drop j)=ints (insC (nmT u) cs k)):=Lib.hid (by rw[INS.out,ints_app])
        have TL:Hid ((ints (cs.take j)).length=j*1):=Lib.hid (by rw[ints_len,List.length_take,ML.out];omega)
        have DL:Hid ((ints (k::cs.drop j)).length=(1+(ml-j))*1):=Lib.hid (by rw[ints_len,List.length_cons,List.length_drop,ML.out];omega)
        rcases F2.out with⟨rfl,rfl,rfl⟩|⟨g,rfl⟩
        ·obtain rfl:j=0:=by omega
         go_wp2_with (at_builtin;refine wpList_append_grows _ rfl _ _ 38 rfl 3 i0 (.int .i64 0) 1 8 Tryz.underlying38 hi hz0 hz1 hz2 rfl (by decide) none 0 0 (ints (cs.take 0)) rfl A7.out TL.out P7.out ⟨g1,0,none⟩ 1 c1 (ints (k::cs.drop 0)) rfl DL.out Q7.out (ints_one _) (by omega) (by unfold maxLen;omega) (by omega) ?_;intro v2 w4 hown hgrow;have O4:=Lib.hid hown;have G5:=Lib.hid hgrow;clear hown hgrow)
         go_roundw
         case rel=>
          refine⟨k+1,by omega,by go_num,?_,?_,BC.out.trans ((Gr.refl _).grown G5.out (fun k e=>by cases e))⟩
          ·rw[CS.out,←hlen2.out,←hint.out]
           exact owns_low O4.out (by have:=SZ.out;omega)
          ·refine .inr (fun e=>?_)
           have:=owns_block O4.out _ e
           have:=SZ.out
           omega
         case measure=>simp[intOf];omega
        ·go_wp2_with (at_builtin;refine wpList_append_grows _ rfl _ _ 38 rfl 3 i0 (.int .i64 0) 1 8 Tryz.underlying38 hi hz0 hz1 hz2 rfl (by decide) (some ⟨g,0,none⟩) j j (ints (cs.take j)) rfl A7.out TL.out P7.out ⟨g1,0,none⟩ (1+(ml-j)) c1 (ints (k::cs.drop j)) rfl DL.out Q7.out (ints_one _) (by omega) (by unfold maxLen;omega) (by omega) ?_;intro v2 w4 hown hgrow;have O4:=Lib.hid hown;have G5:=Lib.hid hgrow;clear hown hgrow)
         go_roundw
         case rel=>
          refine⟨k+1,by omega,by go_num,?_,?_,BC.out.trans ((Gr.refl _).grown G5.out (fun k e=>by cases e))⟩
          ·rw[CS.out,←hlen2.out,←hint.out]
           exact owns_low O4.out (by have:=SZ.out;omega)
          ·refine .inr (fun e=>?_)
           have:=owns_block O4.out _ e
           have:=SZ.out
           omega
         case measure=>simp[intOf];omega
     ·have hpx:¬pp=x:=by rw[p1];omega
      have CS:=Lib.hid (show chl (pq u) (nmT u) x (k+1)=chl (pq u) (nmT u) x k by rw[chl,if_neg (fun h=>hq h.2)])
      have b1:(pp==(x:Int))=false:=by rw[beq_eq_false_iff_ne];exact hpx
      have b2:(pp !=(x:Int))=true:=by rw[bne_iff_ne];exact hpx
      clear hpx k0 p1 p2 hq
      go_wp2_with fail
      go_roundw
      case rel=>exact⟨k+1,by omega,by go_num,by rw[CS.out];exact Gr.owns OW.out ((Gr.refl _).alloc _),AP.out,HG.out.alloc _⟩
      case measure=>simp[intOf];omega
   ·obtain rfl:k=n:=by omega
    have CM:Hid (∀c∈chl (pq u) (nmT u) x k,c<k∧x<c):=Lib.hid (fun c hc=>by
     have h1:=(mem_chl k).1 hc
     have h2:=(HU.out.par c (by rw[NL.out];exact h1.1) (by omega)).2
     exact⟨h1.1,by omega⟩)
    have CL:=chl_len (pq u) (nmT u) x k
    have FIN:Hid (walkF u.length (pq u) (nmT u) (f+1) x=x::(chl (pq u) (nmT u) x k).flatMap (walkF u.length (pq u) (nmT u) f)):=Lib.hid (by rw[walkF,NL.out])
    obtain⟨cs,hcs⟩:∃cs,chl (pq u) (nmT u) x k=cs:=⟨_,rfl⟩
    rw[hcs] at OW CM CL FIN hv
    subst hv
    have OO:=Lib.hid (Gr.owns O0.out HG.out)
    obtain⟨ml,hml⟩:∃m,cs.length=m:=⟨_,rfl⟩
    have ML:=Lib.hid hml
    rw[hml] at OW AP CL ⊢
    clear hcs hml hlt hk
    obtain⟨w4,rfl⟩:∃wo,wo=wr:=⟨_,rfl⟩
    go_wp2_with fail
    go_loopw [66,5] (fun i v wr=>∃(j:Nat) (l:List Nat),j≤ml∧i= .int .i64 j∧wr.ownsRow PB 3 1 v l.length (ints l)∧l=x::(cs.take j).flatMap (walkF u.length (pq u) (nmT u) f)∧l.length≤1000*(j+1)∧wr.ownsRow PB 3 1 (.slice va ml vc) ml (ints cs)∧((Value.slice va ml vc).ownBlock=none∨(Value.slice va ml vc).ownBlock≠v.ownBlock)∧Gr w wr∧Row wr PB 31 [.slice a k cap]) (fun i _ _=>ml-(intOf i).toNat)
    case atStart=>exact⟨0,[x],by omega,rfl,OO.out,by simp,by simp,OW.out,AP.out,GW.out.trans HG.out,RX.out.gr HG.out⟩
    case round=>
     obtain⟨j,l,hj,rfl,hol,hl,hll,hoc,hap,hg,hrx⟩:=hrel
     have RX2:=Lib.hid hrx
     have OL:=Lib.hid hol
     have HL:=Lib.hid hl
     have OC:=Lib.hid hoc
     have AP2:=Lib.hid hap
     have HG2:=Lib.hid hg
     obtain⟨xa,xc,hxv⟩:=owns_slice hol
     have x0:=hrx.cell 0 (by simp)
     have hxb:=has_of_cell x0
     clear hol hl hoc hap hg hrx
     by_cases hjl:j<ml
     ·have hjc:j<cs.length:=by rw[ML.out];exact hjl
      obtain⟨g,cap2,e1,_,_,hc⟩:=owns_cell OC.out (by omega)
      have d0:=hc j (by omega)
      rw[ints_get hjc] at d0
      simp only[Value.slice.injEq] at e1
      obtain⟨e1, -,e9⟩:=e1
      subst e9
      have HTK:=Lib.hid (List.take_succ_eq_append_getElem hjc)
      have CJ:=Lib.hid (CM.out _ (List.getElem_mem hjc))
      obtain⟨c,hcc⟩:∃c,cs[j]'hjc=c:=⟨_,rfl⟩
      rw[hcc] at d0 HTK CJ
      have hd0:=has_of_cell d0
      have jj:(j:Int)<ml:=by omega
      have IC:=Lib.hid (IH.out c (by have:=CJ.out.2;rw[NL.out];omega) (by rw[NL.out];exact CJ.out.1))
      have LC:=Lib.hid (HWL.out f c (by have:=CJ.out.2;rw[NL.out];omega) (by rw[NL.out];exact CJ.out.1))
      have LP:=Lib.hid (walkF_pos u.length (pq u) (nmT u) f c)
      rw[NL.out] at IC
      obtain⟨lc,hlc⟩:∃l,walkF k (pq u) (nmT u) f c=l:=⟨_,rfl⟩
      rw[NL.out,hlc] at LC LP
      rw[hlc] at IC
      have HLC:=Lib.hid hlc
      subst e1
      subst hxv
      clear hc hcc hlc
      go_wp2_with fail
      refine(IC.out a cap wr (H.out.gr RNod.mono HG2.out)).mono ?_
      rintro e w5 ⟨v3,rfl,ho3,hg3⟩
      have lp:=LP.out
      obtain⟨g3,cap3,rfl,_,_,hc3⟩:=owns_cell ho3 (by omega)
      have NEWS:Hid (∀i u,(ints lc)[i]?=some u→w5.cell? ((⟨g3,0,none⟩:Addr).add i)=some u):=Lib.hid (by
       intro i u hu
       obtain⟨hi2,_⟩:=List.getElem?_eq_some_iff.1 hu
       rw[ints_len] at hi2
       rw[Addr.add_lit,Nat.zero_add,hc3 i (by omega),hu])
      have OL5:=Lib.hid (Gr.owns OL.out hg3)
      have OC5:=Lib.hid (Gr.owns OC.out hg3)
      have HG5:=Lib.hid (HG2.out.trans hg3)
      have SZ5:Hid (PB≤w5.heap.size):=Lib.hid (by have h1:=HG5.out.size;rw[HPB.out] at h1;exact h1)
      have RX5:=Lib.hid (RX2.out.gr hg3)
      have lcl:=LC.out
      clear ho3 hg3 hc3
      go_wp2_with (at_builtin;refine wpList_append_own_at _ rfl _ _ 38 rfl PB 3 i0 (.int .i64 0) 1 8 Tryz.underlying38 hi hz0 hz1 hz2 rfl (by decide) _ l.length (ints l) rfl OL5.out ⟨g3,0,none⟩ lc.length cap3 (ints lc) rfl (by rw[ints_len];omega) NEWS.out (ints_one _) (by unfold maxLen;omega) (by omega) SZ5.out ?_;intro v' wz hown' hgrow hnil hat;have HOz:=Lib.hid hown';have HGz:=Lib.hid hgrow;have HAz:=Lib.hid hat;clear hown' hgrow hnil hat)
      go_roundw
      case rel=>
       refine⟨j+1,l++lc,by omega,by go_num,?_,?_,?_,OC5.out.kept HGz.out AP2.out,?_,HG5.out.grown HGz.out (fun i e=>?_),RX5.out.kept HGz.out (RX5.out.ty.ne OL5.out (by decide))⟩
       ·rw[List.length_append,ints_app];exact HOz.out
       ·rw[HTK.out,List.flatMap_append,HL.out,NL.out]
        simp[HLC.out]
       ·rw[List.length_append]
        have:=LC.out
        omega
       ·rcases HAz.out with q|q
        ·rw[q];exact AP2.out
        ·refine .inr (fun e=>?_)
         have:=owns_block OC5.out _ (e.trans q)
         omega
       ·rw[HPB.out];exact(owns_block OL5.out _ e).1
      case measure=>simp[intOf];omega
     ·obtain rfl:j=ml:=by omega
      have e9:cs.take j=cs:=List.take_of_length_le (by rw[ML.out];exact Nat.le_refl _)
      rw[e9] at HL
      clear e9
      subst hxv
      go_wp2_with fail
      rw[HP0.out]
      refine⟨_,rfl,?_,HG2.out⟩
      rw[FIN.out,←HL.out,HPB.out]
      exact OL.out
end Go.Proofs.YtdjhnfopdlgliaaGreat
