/- Lemmas and contracts for the proof of LinkAnswers (several texts in one, printed by wip/tools/pack.py): TeN TeO TeP TeQ. -/
import Derived.Test.YtdjhnfopdlgliaaGreatLa1pb
import Derived.Test.YtdjhnfopdlgliaaGreatLa1pf
set_option maxRecDepth 100000
set_option maxHeartbeats 16000000
set_option linter.unusedVariables false
set_option linter.unusedSimpArgs false
namespace Go.Proofs.YtdjhnfopdlgliaaGreat
open Go.RowKit
open Classical
structure LT where
 l:Lnk
 a:Option Addr
 c:Nat
def encLk(t:LT):List Value:= [.int .i64 t.l.node,.int .i64 t.l.prov,.string (bs t.l.prop),.int .i64 t.l.idx,.slice t.a t.l.args.length t.c]
def encLks(ts:List LT):List Value:=ts.flatMap encLk
theorem encLk_one(t:LT):∀u∈encLk t,u.oneCell'=true:=by intro u hu;simp[encLk] at hu;rcases hu with rfl|rfl|rfl|rfl|rfl<;>rfl
def LRows(w:World)(base:Nat)(ts:List LT):Prop:=∀t∈ts,w.ownsRow base 3 1 (.slice t.a t.l.args.length t.c) t.l.args.length (nums t.l.args)∧(∀z∈t.l.args,Wide z)∧t.l.args.length≤8
theorem LRows.gr{w w':World}{base:Nat}{ts:List LT}(h:LRows w base ts)(hg:Gr w w'):LRows w' base ts:=fun t ht=>⟨Gr.owns (h t ht).1 hg,(h t ht).2⟩
theorem LRows.nil(w:World)(base:Nat):LRows w base []:=fun t h=>by simp at h
theorem LRows.snoc{w:World}{base:Nat}{ts:List LT}{t:LT}(h:LRows w base ts)(ht:w.ownsRow base 3 1 (.slice t.a t.l.args.length t.c) t.l.args.length (nums t.l.args)∧(∀z∈t.l.args,Wide z)∧t.l.args.length≤8):LRows w base (ts++ [t]):=fun x hx=>by
 rcases List.mem_append.1 hx with q|q
 ·exact h x q
 ·rw[List.mem_singleton.1 q];exact ht
theorem LRows.kept{w w':World}{base b2 e2 s2 n2:Nat}{ts:List LT}{v2:Value}{x2:List Value}(h:LRows w base ts)(k:w.ownsRow b2 e2 s2 v2 n2 x2)(hne:3≠e2)(hg:w.grownBy w' v2.ownBlock):LRows w' base ts:=fun t ht=>
 ⟨(h t ht).1.kept hg (owns_ne (h t ht).1 k hne),(h t ht).2⟩
theorem slI_kept{w w':World}{row:Option Nat}{g o:Nat}{xs:List Int}(h:SlOf 1 RI w (some ⟨g,o,none⟩) xs)(hg:w.grownBy w' row)(hne:some g≠row)(hlt:g<w.heap.size):SlOf 1 RI w' (some ⟨g,o,none⟩) xs:=fun j hj=>by
 obtain⟨g2,o2,e2,h2⟩:=h j hj
 cases e2
 refine⟨g,o,rfl,?_,h2.2⟩
 rw[←h2.1]
 exact World.cell?_of_block (hg.block g hlt hne)
def lks(ts:List LT):List Lnk:=ts.map LT.l
theorem infoLnk:(Tryz.prog.info? 40).map (fun i=>(i.zero,i.size,i.bytes))=some (some (.agg #[.int .i64 0,.int .i64 0,.string (bs []),.int .i64 0,.slice none 0 0]),5,64):=by kernel_rfl
theorem ofF_fuel(ts:Tr)(node:Int)(pn cn:St):∀(f g:Nat) (l:List Int) (out:List Lnk),l.length≤f→l.length≤g→(∀k n,argsN ts k cn=some n→0≤n)→ofF ts node pn cn f l out=ofF ts node pn cn g l out:=by
 intro f
 induction f with
 |zero=>intro g l out h1 h2 _;have:l= []:=List.eq_nil_of_length_eq_zero (by omega);subst this;cases g<;>rfl
 |succ f ih=>
  intro g l out h1 h2 ha
  cases l with
  |nil=>cases g<;>rfl
  |cons p l=>
   obtain⟨g,rfl⟩:∃g',g=g'+1:=⟨g-1,by simp only[List.length_cons] at h2;omega⟩
   simp only[List.length_cons] at h1 h2
   unfold ofF
   cases phan ts p with
   |none=>rfl
   |some k=>
    simp only
    cases argsN ts k cn with
    |none=>rfl
    |some n=>
     simp only
     split
     ·rfl
     ·exact ih g _ _ (by rw[List.length_drop];omega) (by rw[List.length_drop];omega) ha
theorem argsN_le{ts:Tr}{k:Nat}{cn:St}{n:Int}(h:argsN ts k cn=some n):0≤n∧n≤8:=by
 unfold argsN at h
 split at h
 ·cases h;omega
 ·rename_i v _
  split at h
  ·rename_i q
   injection h with h
   rw[←h]
   refine⟨?_,q.2.2⟩
   obtain⟨z,hz⟩:=List.length_eq_one_iff.1 q.2.1
   rw[hz]
   exact(cells_bound v z (by rw[hz];simp)).1
  ·cases h
def GivesLks(w:World)(r:Except Int (List Lnk))(e:Ending)(w':World):Prop:=
 match r with
 | .error k=>e= .returned (.tuple #[.slice none 0 0,.int .i64 k])∧Gr w w'
 | .ok ls=>∃v ts,e= .returned (.tuple #[v,.int .i64 0])∧lks ts=ls∧w'.ownsRow w.heap.size 40 5 v ts.length (encLks ts)∧LRows w' w.heap.size ts∧Gr w w'
def sliceLen:Value→Nat
 | .slice _ n _=>n
 |_=>0
theorem of_any(ts:Tr)(a:Option Addr)(cap i:Nat)(pn cn:St)(w:World)(h:SlOf 3 RNod w a ts)(hc:chkT ts=0)(hi:i<ts.length):
  Calls Tryz.prog 43 #[.agg #[.slice a ts.length cap],.int .i64 i,.string (bs pn),.string (bs cn)] w (GivesLks w (ofT ts i pn cn)):=by
 have H:=Lib.hid h
 have HC:=Lib.hid hc
 have G:=Lib.hid (good_of hc)
 have h120:=(good_of hc).len.2
 have NE:Hid (ts.getD i default=ts[i]):=Lib.hid (by rw[List.getD_eq_getElem?_getD,List.getElem?_eq_getElem hi];rfl)
 have LV:Hid (∀v,valP ts[i].props pn=some v→v.length≤256):=Lib.hid fun v hv=>by
  unfold valP at hv
  cases hz:ts[i].props.find? (fun p=>p.name==pn) with
  |none=>rw[hz] at hv;cases hv
  |some p=>rw[hz] at hv;cases hv;exact(G.out.big i hi).2 p (List.mem_of_find?_eq_some hz)
 obtain⟨j0,hj,hy0,hy1,hy2⟩:=info_parts infoLnk
 clear h hc
 go_enter Tryz.func43,Tryz.ntmps43
 go_wp2_with fail
 have RB:=Lib.hid (Row.new w #[.slice a ts.length cap] 31)
 obtain⟨W1,hW1⟩:∃W:World,Hid (W=w.alloc (.cells #[.slice a ts.length cap] 31)):=⟨_,Lib.hid rfl⟩
 rw[←hW1.out] at RB ⊢
 have G1:Hid (Gr w W1):=Lib.hid (by rw[hW1.out];exact(Gr.refl _).alloc _)
 obtain⟨P0,hP0⟩:∃N:Nat,Hid (w.heap.size=N):=⟨_,Lib.hid rfl⟩
 rw[hP0.out] at RB ⊢
 clear hW1 hP0
 refine(treeValue_any ts a cap i pn W1 (H.out.gr RNod.mono G1.out) HC.out hi).mono ?_
 rintro e w1 ⟨rfl,hg1⟩
 have G2:=Lib.hid (G1.out.trans hg1)
 have RB2:=Lib.hid (RB.out.gr hg1)
 clear hg1 RB G1
 have EMP:Hid (ofT ts i pn cn= .ok []→∀w',Gr w w'→GivesLks w (ofT ts i pn cn) (.returned (.tuple #[.slice none 0 0,.int .i64 0])) w'):=Lib.hid fun q w' hg=>by
  rw[q];exact⟨_,[],rfl,rfl,World.ownsRow_nil _ _ _ _,LRows.nil _ _,hg⟩
 cases hz:valP ts[i].props pn with
 |none=>
  have R:Hid (ofT ts i pn cn= .ok []):=Lib.hid (by unfold ofT;rw[NE.out,hz])
  clear hz
  go_wp2_with fail
  refine bodyPost_ret (v:= .tuple #[.slice none 0 0,.int .i64 0]) (by simp[results,Tryz.results43,go_sem]) rfl ?_
  exact EMP.out R.out _ G2.out
 |some v=>
  have lv:=LV.out v hz
  by_cases hv0:v= []
  ·subst hv0
   have R:Hid (ofT ts i pn cn= .ok []):=Lib.hid (by unfold ofT;rw[NE.out,hz];rfl)
   clear hz
   go_wp2_with fail
   refine bodyPost_ret (v:= .tuple #[.slice none 0 0,.int .i64 0]) (by simp[results,Tryz.results43,go_sem]) rfl ?_
   exact EMP.out R.out _ G2.out
  ·have R:Hid (ofT ts i pn cn=if cellsOk v then ofF ts i pn cn (cellsL v).length (cellsL v) [] else .error 26):=Lib.hid (by unfold ofT;rw[NE.out,hz];simp only[hv0,if_false])
   have hve:v.isEmpty=false:=by cases v with|nil=>exact absurd rfl hv0|cons=>rfl
   clear hz hv0
   go_wp2_with fail
   refine(cells_any v w1 (by omega)).mono ?_
   intro e w2 hgv
   unfold GivesCells at hgv
   by_cases hok:cellsOk v=true
   ·rw[if_pos hok] at hgv R
    obtain⟨x,rfl,ho,hg⟩:=hgv
    have G3:=Lib.hid (G2.out.trans hg)
    have RB3:=Lib.hid (RB2.out.gr hg)
    obtain⟨xa,xc,rfl,hxc,hsl⟩:=ints_at ho (cells_wide v)
    have hpos:0<(cellsL v).length:=by
     rw[cellsL_length];simp[cellsOk] at hok;have:0<v.length:=List.length_pos_iff.2 hok.1;omega
    obtain⟨g,o,rfl,hzz⟩:=hsl 0 hpos
    have SL:=Lib.hid hsl
    have TY:Hid (Ty w2 g 3):=Lib.hid (owns_ty ho rfl)
    clear hok ho hg hsl hve hzz
    go_wp2_with fail
    have AN:Hid (∀k n,argsN ts k cn=some n→0≤n):=Lib.hid fun k n q=>(argsN_le q).1
    have LC:Hid ((cellsL v).length≤64):=Lib.hid (by rw[cellsL_length];omega)
    go_loopw [12,14] (fun s x wr=>∃(l:List Int) (g o c:Nat) (ls:List LT),s= .slice (some ⟨g,o,none⟩) l.length c∧l.length≤c∧l.length+ls.length≤(cellsL v).length∧SlOf 1 RI wr (some ⟨g,o,none⟩) l∧ofT ts i pn cn=ofF ts i pn cn l.length l (lks ls)∧(∀z∈l,Wide z)∧wr.ownsRow w.heap.size 40 5 x ls.length (encLks ls)∧LRows wr w.heap.size ls∧Ty wr g 3∧Row wr P0 31 [.slice a ts.length cap]∧Gr w wr) (fun s _ _=>sliceLen s)
    case atStart=>exact⟨cellsL v,g,o,xc,[],rfl,hxc,by simp,SL.out,R.out,cells_wide v,World.ownsRow_nil _ _ _ _,LRows.nil _ _,TY.out,RB3.out,G3.out⟩
    case round=>
     clear SL TY RB3 G3 hxc hpos RB2 G2
     obtain⟨l,g,o,c,ls,rfl,hlc,hll,hsl,hof,hwd,ho,hlr,hty,hrb,hg⟩:=hrel
     obtain⟨va,vc,rfl⟩:=owns_slice ho
     have SL:=Lib.hid hsl
     have OF:=Lib.hid hof
     have WD:=Lib.hid hwd
     have OW:=Lib.hid ho
     have LR:=Lib.hid hlr
     have TY:=Lib.hid hty
     have HRB:=Lib.hid hrb
     have HG:=Lib.hid hg
     have LS:ls.length≤64:=by have:=LC.out;omega
     have l64:l.length≤64:=by have:=LC.out;omega
     have b0:wr.cell? ⟨P0,0,none⟩=some (.slice a ts.length cap):=hrb.cell 0 (by simp)
     have hh:=has_of_cell b0
     clear hsl hof hwd ho hlr hty hrb hg
     cases l with
     |nil=>
      have R2:Hid (ofT ts i pn cn= .ok (lks ls)):=Lib.hid (by rw[OF.out];rfl)
      go_wp2_with fail
      refine bodyPost_ret (v:= .tuple #[.slice va ls.length vc,.int .i64 0]) (by simp[results,Tryz.results43,go_sem]) rfl ?_
      rw[R2.out]
      exact⟨_,ls,rfl,rfl,OW.out,LR.out,HG.out⟩
     |cons p l=>
      obtain⟨g',o',e',d0⟩:=SL.out.one 0 (by simp)
      cases e'
      have d1:=d0.1
      simp only[List.getElem_cons_zero,Nat.add_zero] at d1
      have hh2:=has_of_cell d1
      have kl:(0:Int)<(l.length:Int)+1:=by omega
      clear d0
      go_wp2_with fail
      refine wp_region_grows (by kernel_rfl) (by kernel_rfl) ?_
      repeat(go_big_quiet_step (first|(go_at_call 84;exact calls_grows (phandle_any ts a cap p _ (H.out.gr RNod.mono (by repeat(first|with_reducible exact Gr.refl _|with_reducible exact HG.out|with_reducible refine Gr.xt _ _ ?_|with_reducible refine Gr.alloc _ ?_))) HC.out))))
      refine wpQuiet_nil ?_
      rintro _ ⟨⟨O,d9⟩,rfl⟩
      have G5:Hid (Gr wr (xt wr O d9)):=Lib.hid ((Gr.refl _).xt _ _)
      obtain⟨W5,hW5⟩:∃W:World,Hid (W=xt wr O d9):=⟨_,Lib.hid rfl⟩
      have hW5':=hW5.out
      rw[←hW5'] at G5 ⊢
      have b5:W5.cell? ⟨P0,0,none⟩=some (.slice a ts.length cap):=(HRB.out.gr G5.out).cell 0 (by simp)
      have HG5:=Lib.hid (HG.out.trans G5.out)
      have SL5:=Lib.hid (SL.out.giI G5.out)
      have OW5:=Lib.hid (Gr.owns OW.out G5.out)
      have LR5:=Lib.hid (LR.out.gr G5.out)
      have TY5:=Lib.hid (TY.out.gr G5.out)
      have HRB5:=Lib.hid (HRB.out.gr G5.out)
      clear b0 hh d1 hh2 hW5' hW5 SL OW LR TY HRB HG G5
      cases hph:phan ts p with
      |none=>
       have R2:Hid (ofT ts i pn cn= .error 25):=Lib.hid (by rw[OF.out];simp only[List.length_cons,ofF,hph])
       clear hph
       go_wp2_with fail
       refine bodyPost_ret (v:= .tuple #[.slice none 0 0,.int .i64 25]) (by simp[results,Tryz.results43,go_sem]) rfl ?_
       rw[R2.out]
       exact⟨rfl,HG5.out⟩
      |some k=>
       have hkl:=phan_lt hph
       have OF2:Hid (ofT ts i pn cn=match argsN ts k cn with|none=> .error 26|some n=>if(l.length:Int)<n then .error 26 else ofF ts i pn cn l.length (l.drop n.toNat) (lks ls++ [⟨i,k,pn,(lks ls).length,l.take n.toNat⟩])):=Lib.hid (by rw[OF.out];simp only[List.length_cons,ofF,hph];rfl)
       clear hph OF
       go_wp2_with fail
       refine(arguments_any ts a cap k cn W5 (H.out.gr RNod.mono HG5.out) HC.out hkl).mono ?_
       rintro e w6 ⟨rfl,hg6⟩
       have HG6:=Lib.hid (HG5.out.trans hg6)
       have SL6:=Lib.hid (SL5.out.giI hg6)
       have OW6:=Lib.hid (Gr.owns OW5.out hg6)
       have LR6:=Lib.hid (LR5.out.gr hg6)
       have TY6:=Lib.hid (TY5.out.gr hg6)
       have HRB6:=Lib.hid (HRB5.out.gr hg6)
       clear hg6 b5 HG5 SL5 OW5 LR5 TY5 HRB5
       simp only[List.length_cons] at hlc hll l64 ⊢
       obtain⟨o1,ho1⟩:∃o1,Hid (o1=if c=1 then o else o+1):=⟨_,Lib.hid rfl⟩
       have P1:(if c=1 then(some ⟨g,o,none⟩:Option Addr) else some ⟨g,o+1,none⟩)=some ⟨g,o1,none⟩:=by rw[ho1.out];split<;>rfl
       have kc:(1:Int)≤(l.length:Int)+1:=by omega
       have SL7:Hid (SlOf 1 RI w6 (some ⟨g,o1,none⟩) l):=Lib.hid (by
        intro j hj
        have hc1:c≠1:=by omega
        obtain⟨g2,o2,e2,h2⟩:=SL6.out.one (j+1) (by simp;omega)
        cases e2
        refine⟨g,o+1,by rw[ho1.out,if_neg hc1],?_⟩
        rw[Nat.mul_one,show o+1+j=o+(j+1) by omega]
        simpa using h2)
       cases han:argsN ts k cn with
       |none=>
        rw[han] at OF2
        clear han
        unfold argV
        go_wp2_with fail
        refine bodyPost_ret (v:= .tuple #[.slice none 0 0,.int .i64 26]) (by simp[results,Tryz.results43,go_sem]) rfl ?_
        rw[OF2.out]
        exact⟨rfl,HG6.out⟩
       |some n=>
        obtain⟨n0,n8⟩:=argsN_le han
        rw[han] at OF2
        clear han
        obtain⟨q,rfl⟩:∃q:Nat,n=q:=⟨n.toNat,by omega⟩
        unfold argV
        by_cases hlq:l.length<q
        ·have kq:decide (l.length<q)=true:=by simp;omega
         have R3:Hid (ofT ts i pn cn= .error 26):=Lib.hid (by rw[OF2.out];simp only;rw[if_pos (by omega)])
         clear hlq
         go_wp2_with fail
         refine bodyPost_ret (v:= .tuple #[.slice none 0 0,.int .i64 26]) (by simp[results,Tryz.results43,go_sem]) rfl ?_
         rw[R3.out]
         exact⟨rfl,HG6.out⟩
        ·have kq:decide (l.length<q)=false:=by simp;omega
         have kq2:(q:Int)≤((c-1:Nat):Int):=by omega
         go_wp2_with fail
         refine(Tryz.slices_Clone_int g o1 q _ l w6 (by omega) (by omega) (fun j hj=>?_)).mono ?_
         ·obtain⟨g2,o2,e2,h2⟩:=SL7.out.one j hj
          cases e2
          rw[h2.1,List.getD_eq_getElem?_getD,List.getElem?_eq_getElem hj];rfl
         rintro e w7 ⟨vv,rfl,hov,_,hbl⟩
         have g7:Gr w6 w7:=Gr.of_below hbl
         have hlt:(l.take q).length=q:=by rw[List.length_take];omega
         have hov2:w7.ownsRow w6.heap.size 3 1 vv (l.take q).length (nums (l.take q)):=by rw[hlt];exact hov
         obtain⟨xa,xd,rfl,hxd,hsx⟩:=ints_at hov2 (fun z hz=>WD.out z (List.mem_cons_of_mem _ (List.mem_of_mem_take hz)))
         rw[hlt] at hxd
         have HG7:=Lib.hid (HG6.out.trans g7)
         have OW7:=Lib.hid (Gr.owns OW6.out g7)
         have LR7:=Lib.hid ((LR6.out.gr g7).snoc (t:=⟨⟨i,k,pn,(lks ls).length,l.take q⟩,xa,xd⟩) ⟨owns_low hov2 HG6.out.size,fun z hz=>WD.out z (List.mem_cons_of_mem _ (List.mem_of_mem_take hz)),by rw[hlt];omega⟩)
         have TY7:=Lib.hid (TY6.out.gr g7)
         have HRB7:=Lib.hid (HRB6.out.gr g7)
         have SL8:=Lib.hid (SL7.out.giI g7)
         have LT:=Lib.hid hlt
         have EK:Hid (encLk ⟨⟨i,k,pn,(lks ls).length,l.take q⟩,xa,xd⟩= [.int .i64 i,.int .i64 k,.string (bs pn),.int .i64 ls.length,.slice xa q xd]):=Lib.hid (by simp only[encLk,hlt,lks,List.length_map])
         clear hov hov2 hsx hbl g7 HG6 OW6 LR6 TY6 HRB6 SL6 SL7 hlt
         rw[LT.out]
         obtain⟨o2,ho2⟩:∃o2,Hid (o2=if c-1=q then o1 else o1+q):=⟨_,Lib.hid rfl⟩
         have P2:(if c-1=q then(some ⟨g,o1,none⟩:Option Addr) else some ⟨g,o1+q,none⟩)=some ⟨g,o2,none⟩:=by rw[ho2.out];split<;>rfl
         have kq3:(q:Int)≤(l.length:Int):=by omega
         have SL9:Hid (SlOf 1 RI w7 (some ⟨g,o2,none⟩) (l.drop q)):=Lib.hid (by
          intro j hj
          rw[List.length_drop] at hj
          have hc1:c-1≠q:=by omega
          obtain⟨g2,o3,e2,h2⟩:=SL8.out.one (q+j) (by omega)
          cases e2
          refine⟨g,o1+q,by rw[ho2.out,if_neg hc1],?_⟩
          rw[Nat.mul_one,show o1+q+j=o1+(q+j) by omega,List.getElem_drop]
          exact h2)
         have NR:=Lib.hid (row_cells (Row.new w7 #[.int .i64 i,.int .i64 k,.string (bs pn),.int .i64 ls.length,.slice xa q xd] 40))
         go_wp2_with (at_builtin;refine wpList_append_own _ rfl _ _ 35 rfl w.heap.size 40 j0 (.agg #[.int .i64 0,.int .i64 0,.string (bs []),.int .i64 0,.slice none 0 0]) 5 64 Tryz.underlying35 hj hy0 hy1 hy2 rfl (by decide) (.slice va ls.length vc) ls.length (encLks ls) rfl (OW7.out.alloc _) ⟨w7.heap.size,0,none⟩ 1 1 [.int .i64 i,.int .i64 k,.string (bs pn),.int .i64 ls.length,.slice xa q xd] rfl rfl NR.out (by rw[←EK.out];exact encLk_one _) (by unfold maxLen;omega) (by omega) (by have:=HG7.out.size;simp;omega) ?_;intro v' wz hown' hgrow hnil;have HOz:=Lib.hid hown';have HGz:=Lib.hid hgrow;clear hown' hgrow hnil)
         go_roundw
         case rel=>
          have ga:Gr w7 (w7.alloc (.cells #[.int .i64 i,.int .i64 k,.string (bs pn),.int .i64 ls.length,.slice xa q xd] 40)):=(Gr.refl w7).alloc _
          have OA:=Gr.owns OW7.out ga
          have TYA:=TY7.out.gr ga
          have RA:=HRB7.out.gr ga
          have GA:=HG7.out.trans ga
          refine⟨l.drop q,g,o2,c-1-q,ls++ [⟨⟨i,k,pn,(lks ls).length,l.take q⟩,xa,xd⟩],by rw[List.length_drop],by rw[List.length_drop];omega,by rw[List.length_drop,List.length_append];simp only[List.length_cons,List.length_nil];omega,slI_kept (SL9.out.giI ga) HGz.out (TYA.ne OA (by decide)) TYA.lt,?_,fun z hz=>WD.out z (List.mem_cons_of_mem _ (List.mem_of_mem_drop hz)),?_,(LR7.out.gr ga).kept OA (by decide) HGz.out,TYA.kept HGz.out (TYA.ne OA (by decide)),RA.kept HGz.out (RA.ty.ne OA (by decide)),GA.grown HGz.out (fun j e=>(OA.lt j e).1)⟩
          ·rw[OF2.out]
           (try simp only)
           rw[if_neg (by omega),Int.toNat_natCast,ofF_fuel ts i pn cn l.length (l.drop q).length (l.drop q) _ (by rw[List.length_drop];omega) (Nat.le_refl _) AN.out]
           simp only[lks,List.map_append,List.map_cons,List.map_nil]
          ·have:=HOz.out
           rw[List.length_append]
           unfold encLks at this ⊢
           rw[List.flatMap_append,List.flatMap_cons,List.flatMap_nil,List.append_nil,EK.out]
           exact this
         case measure=>simp[sliceLen];omega
   ·rw[if_neg hok] at hgv R
    obtain⟨rfl,hg⟩:=hgv
    have G3:=Lib.hid (G2.out.trans hg)
    clear hg hok
    go_wp2_with fail
    refine bodyPost_ret (v:= .tuple #[.slice none 0 0,.int .i64 26]) (by simp[results,Tryz.results43,go_sem]) rfl ?_
    rw[R.out]
    exact⟨rfl,G3.out⟩
theorem begin_any(ts:Tr)(a:Option Addr)(cap i:Nat)(w:World)(h:SlOf 3 RNod w a ts)(hc:chkT ts=0)(hi:i<ts.length):
  Calls Tryz.prog 42 #[.agg #[.slice a ts.length cap],.int .i64 i] w (Grows w (.int .i64 0)):=by
 have H:=Lib.hid h
 have h120:=(good_of hc).len.2
 have C:=Lib.hid hc
 clear h hc
 go_enter Tryz.func42,Tryz.ntmps42
 go_wp2_with fail
 have RB:=Lib.hid (Row.new w #[.slice a ts.length cap] 31)
 obtain⟨W1,hW1⟩:∃W:World,Hid (W=w.alloc (.cells #[.slice a ts.length cap] 31)):=⟨_,Lib.hid rfl⟩
 rw[←hW1.out] at RB ⊢
 have G1:Hid (Gr w W1):=Lib.hid (by rw[hW1.out];exact(Gr.refl _).alloc _)
 obtain⟨P0,hP0⟩:∃N:Nat,Hid (w.heap.size=N):=⟨_,Lib.hid rfl⟩
 rw[hP0.out] at RB ⊢
 clear hW1 hP0
 refine(treeCheck_any ts a cap W1 (H.out.gr RNod.mono G1.out) (by unfold Fit;omega)).mono ?_
 rintro e w1 ⟨rfl,hg1⟩
 rw[C.out]
 have G2:=Lib.hid (G1.out.trans hg1)
 have b0:w1.cell? ⟨P0,0,none⟩=some (.slice a ts.length cap):=(RB.out.gr hg1).cell 0 (by simp)
 have k2:decide (ts.length≤i)=false:=by simp;omega
 clear hg1 RB G1
 go_wp2_with fail
 go_ret
 exact⟨rfl,G2.out⟩
theorem Of_any(ts:Tr)(a:Option Addr)(cap i:Nat)(pn cn:St)(w:World)(h:SlOf 3 RNod w a ts)(hc:chkT ts=0)(hi:i<ts.length):
  Calls Tryz.prog 9 #[.agg #[.slice a ts.length cap],.int .i64 i,.string (bs pn),.string (bs cn)] w (GivesLks w (ofT ts i pn cn)):=by
 have H:=Lib.hid h
 have C:=Lib.hid hc
 clear h hc
 go_enter Tryz.func9,Tryz.ntmps9
 go_wp2_with fail
 have RB:=Lib.hid (Row.new w #[.slice a ts.length cap] 31)
 obtain⟨W1,hW1⟩:∃W:World,Hid (W=w.alloc (.cells #[.slice a ts.length cap] 31)):=⟨_,Lib.hid rfl⟩
 rw[←hW1.out] at RB ⊢
 have G1:Hid (Gr w W1):=Lib.hid (by rw[hW1.out];exact(Gr.refl _).alloc _)
 obtain⟨P0,hP0⟩:∃N:Nat,Hid (w.heap.size=N):=⟨_,Lib.hid rfl⟩
 rw[hP0.out] at RB ⊢
 clear hW1 hP0
 refine(begin_any ts a cap i W1 (H.out.gr RNod.mono G1.out) C.out hi).mono ?_
 rintro e w1 ⟨rfl,hg1⟩
 have G2:=Lib.hid (G1.out.trans hg1)
 have b0:w1.cell? ⟨P0,0,none⟩=some (.slice a ts.length cap):=(RB.out.gr hg1).cell 0 (by simp)
 clear hg1 RB G1
 go_wp2_with fail
 refine(of_any ts a cap i pn cn w1 (H.out.gr RNod.mono G2.out) C.out hi).mono ?_
 intro e w2 hgv
 cases hz:ofT ts i pn cn with
 |error k=>
  rw[hz] at hgv
  have HZ:=Lib.hid hz
  obtain⟨rfl,hg⟩:=hgv
  have G3:=Lib.hid (G2.out.trans hg)
  clear hg hz
  go_wp2_with fail
  refine bodyPost_ret (v:= .tuple #[.slice none 0 0,.int .i64 k]) (by simp[results,Tryz.results9,go_sem]) rfl ?_
  rw[HZ.out]
  exact⟨rfl,G3.out⟩
 |ok ls=>
  rw[hz] at hgv
  have HZ:=Lib.hid hz
  obtain⟨v,ts',rfl,h1,h2,h3,hg⟩:=hgv
  have G3:=Lib.hid (G2.out.trans hg)
  have H1:=Lib.hid h1
  have H2:=Lib.hid (owns_low h2 G2.out.size)
  have H3:Hid (LRows w2 w.heap.size ts'):=Lib.hid fun t ht=>⟨owns_low (h3 t ht).1 G2.out.size,(h3 t ht).2⟩
  clear hg hz h1 h2 h3
  go_wp2_with fail
  refine bodyPost_ret (v:= .tuple #[v,.int .i64 0]) (by simp[results,Tryz.results9,go_sem]) rfl ?_
  rw[HZ.out]
  exact⟨v,ts',rfl,H1.out,H2.out,H3.out,G3.out⟩
def allT(ts:Tr)(pn cn:St):Nat→Except Int (List Lnk)
 |0=> .ok []
 |k+1=>match allT ts pn cn k with
  | .error e=> .error e
  | .ok out=>match ofT ts k pn cn with
   | .error e=> .error e
   | .ok l=> .ok (out++l)
theorem allT_err{ts:Tr}{pn cn:St}{e:Int}:∀{k m:Nat},k≤m→allT ts pn cn k= .error e→allT ts pn cn m= .error e:=by
 intro k m h
 induction h with
 |refl=>exact id
 |step _ ih=>intro q;rw[allT,ih q]
theorem ofF_len(ts:Tr)(node:Int)(pn cn:St):∀(f:Nat) (l:List Int) (out ls:List Lnk),ofF ts node pn cn f l out= .ok ls→ls.length≤out.length+l.length:=by
 intro f
 induction f with
 |zero=>intro l out ls h;injection h with h;subst h;omega
 |succ f ih=>
  intro l out ls h
  cases l with
  |nil=>injection h with h;subst h;omega
  |cons p l=>
   unfold ofF at h
   split at h
   ·cases h
   ·split at h
    ·cases h
    ·split at h
     ·cases h
     ·have:=ih _ _ _ h
      rw[List.length_append,List.length_drop] at this
      simp only[List.length_cons,List.length_nil] at this ⊢
      omega
theorem ofF_err(ts:Tr)(node:Int)(pn cn:St):∀(f:Nat) (l:List Int) (out:List Lnk) (e:Int),ofF ts node pn cn f l out= .error e→e=25∨e=26:=by
 intro f
 induction f with
 |zero=>intro l out e h;cases h
 |succ f ih=>
  intro l out e h
  cases l with
  |nil=>cases h
  |cons p l=>
   unfold ofF at h
   split at h
   ·injection h with h;exact .inl h.symm
   ·split at h
    ·injection h with h;exact .inr h.symm
    ·split at h
     ·injection h with h;exact .inr h.symm
     ·exact ih _ _ _ h
theorem ofT_err{ts:Tr}{k:Nat}{pn cn:St}{e:Int}(h:ofT ts k pn cn= .error e):e=25∨e=26:=by
 unfold ofT at h
 split at h
 ·cases h
 ·split at h
  ·cases h
  ·split at h
   ·exact ofF_err _ _ _ _ _ _ _ _ h
   ·injection h with h;exact .inr h.symm
theorem ofT_len{ts:Tr}(hg:GoodT ts){k:Nat}(hk:k<ts.length){pn cn:St}{ls:List Lnk}(h:ofT ts k pn cn= .ok ls):ls.length≤64:=by
 unfold ofT at h
 rw[List.getD_eq_getElem?_getD,List.getElem?_eq_getElem hk,Option.getD_some] at h
 split at h
 ·injection h with h;subst h;simp
 ·rename_i v hv
  split at h
  ·injection h with h;subst h;simp
  ·split at h
   ·have hl:v.length≤256:=by
     unfold valP at hv
     cases hz:ts[k].props.find? (fun p=>p.name==pn) with
     |none=>rw[hz] at hv;cases hv
     |some p=>rw[hz] at hv;cases hv;exact(hg.big k hk).2 p (List.mem_of_find?_eq_some hz)
    have:=ofF_len ts k pn cn _ _ _ _ h
    rw[cellsL_length] at this
    simp only[List.length_nil] at this
    omega
   ·cases h
theorem gets_owns{w:World}{base e size n c:Nat}{a:Option Addr}{xs:List Value}(h:w.ownsRow base e size (.slice a n c) n xs):Gets w a n size xs:=by
 refine⟨h.1,fun hn=>?_⟩
 rcases h.2 with⟨_,e2⟩|⟨g,cap,cur,e1,_⟩
 ·exact absurd e2 hn
 ·cases e1
  exact⟨_,rfl,h.cells rfl⟩
theorem LRows.append{w:World}{base:Nat}{ts us:List LT}(h:LRows w base ts)(k:LRows w base us):LRows w base (ts++us):=fun x hx=>by
 rcases List.mem_append.1 hx with q|q
 ·exact h x q
 ·exact k x q
theorem all_any(ts:Tr)(a:Option Addr)(cap:Nat)(pn cn:St)(w:World)(h:SlOf 3 RNod w a ts)(hc:chkT ts=0):
  Calls Tryz.prog 14 #[.agg #[.slice a ts.length cap],.string (bs pn),.string (bs cn)] w (GivesLks w (allT ts pn cn ts.length)):=by
 have H:=Lib.hid h
 have C:=Lib.hid hc
 have G:=Lib.hid (good_of hc)
 have h120:=(good_of hc).len.2
 obtain⟨j0,hj,hy0,hy1,hy2⟩:=info_parts infoLnk
 clear h hc
 go_enter Tryz.func14,Tryz.ntmps14
 go_wp2_with fail
 have RB:=Lib.hid (Row.new w #[.slice a ts.length cap] 31)
 obtain⟨W1,hW1⟩:∃W:World,Hid (W=w.alloc (.cells #[.slice a ts.length cap] 31)):=⟨_,Lib.hid rfl⟩
 rw[←hW1.out] at RB ⊢
 have G1:Hid (Gr w W1):=Lib.hid (by rw[hW1.out];exact(Gr.refl _).alloc _)
 obtain⟨P0,hP0⟩:∃N:Nat,Hid (w.heap.size=N):=⟨_,Lib.hid rfl⟩
 rw[hP0.out] at RB ⊢
 clear hW1 hP0
 refine(treeCheck_any ts a cap W1 (H.out.gr RNod.mono G1.out) (by unfold Fit;omega)).mono ?_
 rintro e w1 ⟨rfl,hg1⟩
 rw[C.out]
 have G2:=Lib.hid (G1.out.trans hg1)
 have RB2:=Lib.hid (RB.out.gr hg1)
 have b0:w1.cell? ⟨P0,0,none⟩=some (.slice a ts.length cap):=RB2.out.cell 0 (by simp)
 clear hg1 RB G1
 go_wp2_with fail
 go_loopw [9,21] (fun x i wr=>∃(k:Nat) (ls:List LT),k≤ts.length∧i= .int .i64 k∧allT ts pn cn k= .ok (lks ls)∧ls.length≤k*64∧wr.ownsRow w.heap.size 40 5 x ls.length (encLks ls)∧LRows wr w.heap.size ls∧Row wr P0 31 [.slice a ts.length cap]∧Gr w wr) (fun _ i _=>ts.length-(intOf i).toNat)
 case atStart=>exact⟨0,[],Nat.zero_le _,rfl,rfl,by simp,World.ownsRow_nil _ _ _ _,LRows.nil _ _,RB2.out,G2.out⟩
 case round=>
  clear b0 RB2 G2
  obtain⟨k,ls,hk,rfl,hal,hln,ho,hlr,hrb,hg⟩:=hrel
  obtain⟨va,vc,rfl⟩:=owns_slice ho
  have AL:=Lib.hid hal
  have OW:=Lib.hid ho
  have LR:=Lib.hid hlr
  have HRB:=Lib.hid hrb
  have HG:=Lib.hid hg
  have b0:wr.cell? ⟨P0,0,none⟩=some (.slice a ts.length cap):=hrb.cell 0 (by simp)
  clear hal ho hlr hrb hg
  by_cases hlt:k<ts.length
  ·go_wp2_with fail
   refine(of_any ts a cap k pn cn wr (H.out.gr RNod.mono HG.out) C.out hlt).mono ?_
   intro e w2 hgv
   cases hz:ofT ts k pn cn with
   |error er=>
    rw[hz] at hgv
    have A2:Hid (allT ts pn cn ts.length= .error er):=Lib.hid (allT_err (k:=k+1) (by omega) (by rw[allT,AL.out];simp only[hz]))
    obtain⟨rfl,hg⟩:=hgv
    have G3:=Lib.hid (HG.out.trans hg)
    have ern:Hid (er=25∨er=26):=Lib.hid (ofT_err hz)
    have eb:(er !=0)=true:=by rw[bne_iff_ne];have:=ern.out;omega
    clear hg hz
    go_wp2_with fail
    refine bodyPost_ret (v:= .tuple #[.slice none 0 0,.int .i64 er]) (by simp[results,Tryz.results14,go_sem]) rfl ?_
    rw[A2.out]
    exact⟨rfl,G3.out⟩
   |ok l2=>
    rw[hz] at hgv
    have A2:Hid (allT ts pn cn (k+1)= .ok (lks ls++l2)):=Lib.hid (by rw[allT,AL.out];simp only[hz])
    have L2:=ofT_len G.out hlt hz
    obtain⟨v,ls2,rfl,h1,h2,h3,hg⟩:=hgv
    obtain⟨va2,vc2,rfl⟩:=owns_slice h2
    have hl2:ls2.length≤64:=by rw[←h1] at L2;simpa [lks] using L2
    have G3:=Lib.hid (HG.out.trans hg)
    have OW3:=Lib.hid (Gr.owns OW.out hg)
    have LR3:=Lib.hid (LR.out.gr hg)
    have HRB3:=Lib.hid (HRB.out.gr hg)
    have H1:=Lib.hid h1
    have GT:Hid (Gets w2 va2 ls2.length 5 (encLks ls2)):=Lib.hid (gets_owns h2)
    have LR2:Hid (LRows w2 w.heap.size ls2):=Lib.hid fun t ht=>⟨owns_low (h3 t ht).1 HG.out.size,(h3 t ht).2⟩
    clear hg hz h1 h2 h3 L2 b0
    have ON:Hid (∀u∈encLks ls2,u.oneCell'=true):=Lib.hid (fun u hu=>by obtain⟨t,_,h⟩:=List.mem_flatMap.1 hu;exact encLk_one t u h)
    go_wp2_with (at_builtin;refine wpList_append_gets _ rfl _ _ 35 rfl w.heap.size 40 j0 (.agg #[.int .i64 0,.int .i64 0,.string (bs []),.int .i64 0,.slice none 0 0]) 5 64 Tryz.underlying35 hj hy0 hy1 hy2 rfl (by decide) (.slice va ls.length vc) ls.length (encLks ls) rfl OW3.out va2 ls2.length vc2 (encLks ls2) rfl GT.out ON.out (by unfold maxLen;omega) (by omega) G3.out.size ?_;intro v' wz hown' hgrow hnil;have HOz:=Lib.hid hown';have HGz:=Lib.hid hgrow;clear hown' hgrow hnil)
    go_roundw
    case rel=>
     refine⟨k+1,ls++ls2,by omega,by go_num,by rw[A2.out,←H1.out];simp[lks],by rw[List.length_append];omega,?_,?_,?_,?_⟩
     ·have:=HOz.out
      rw[List.length_append]
      unfold encLks at this ⊢
      rw[List.flatMap_append]
      exact this
     ·exact(LR3.out.kept OW3.out (by decide) HGz.out).append (LR2.out.kept OW3.out (by decide) HGz.out)
     ·exact HRB3.out.kept HGz.out (HRB3.out.ty.ne OW3.out (by decide))
     ·exact G3.out.grown HGz.out (fun j e=>(OW3.out.lt j e).1)
    case measure=>simp[intOf];omega
  ·obtain rfl:k=ts.length:=by omega
   go_wp2_with fail
   refine bodyPost_ret (v:= .tuple #[.slice va ls.length vc,.int .i64 0]) (by simp[results,Tryz.results14,go_sem]) rfl ?_
   rw[AL.out]
   exact⟨_,ls,rfl,rfl,OW.out,LR.out,HG.out⟩
structure GAt(base:Nat)(w:World)(GB:Nat)(vs:List Value)(gs:List (List Int)):Prop where
 len:vs.length=gs.length
 row:Row w GB 38 vs
 own:∀(i:Nat) (v:Value) (g:List Int),vs[i]?=some v→gs[i]?=some g→w.ownsRow base 3 1 v g.length (nums g)
 ap:∀(i j:Nat) (u v:Value),i≠j→vs[i]?=some u→vs[j]?=some v→u.ownBlock=none∨u.ownBlock≠v.ownBlock
theorem GAt.gr{base:Nat}{w w':World}{GB:Nat}{vs:List Value}{gs:List (List Int)}(h:GAt base w GB vs gs)(hg:Gr w w'):GAt base w' GB vs gs:=
 ⟨h.len,h.row.gr hg,fun i v g h1 h2=>Gr.owns (h.own i v g h1 h2) hg,h.ap⟩
theorem GAt.at{base:Nat}{w:World}{GB:Nat}{vs:List Value}{gs:List (List Int)}(h:GAt base w GB vs gs){i:Nat}(hi:i<gs.length):∃a c,vs[i]?=some (.slice a gs[i].length c)∧w.ownsRow base 3 1 (.slice a gs[i].length c) gs[i].length (nums gs[i]):=by
 have hv:i<vs.length:=by rw[h.len];exact hi
 have:=h.own i vs[i] gs[i] (List.getElem?_eq_getElem hv) (List.getElem?_eq_getElem hi)
 obtain⟨a,c,e⟩:=owns_slice this
 rw[e] at this
 exact⟨a,c,by rw[List.getElem?_eq_getElem hv,e],this⟩
theorem GAt.put{base:Nat}{w w':World}{GB:Nat}{vs:List Value}{gs:List (List Int)}(h:GAt base w GB vs gs){i:Nat}{v v':Value}{g':List Int}(hi:i<gs.length)(hv:vs[i]?=some v)
  (hown:w'.ownsRow base 3 1 v' g'.length (nums g')) (hg:w.grownBy w' v.ownBlock) (hloc:v'.ownBlock=v.ownBlock∨∃k,v'.ownBlock=some k∧w.heap.size≤k):
  GAt base (w'.setCell ⟨GB,i,none⟩ v') GB (vs.set i v') (gs.set i g'):=by
 have ovi:=h.own i v gs[i] hv (List.getElem?_eq_getElem hi)
 have hrow:Row w' GB 38 vs:=h.row.kept hg (h.row.ty.ne ovi (by decide))
 refine⟨by rw[List.length_set,List.length_set];exact h.len,hrow.set i v',fun j u g h1 h2=>?_,fun j k u x hjk h1 h2=>?_⟩
 ·by_cases e:j=i
  ·subst e
   rw[List.getElem?_set_self (by rw[h.len];exact hi)] at h1
   rw[List.getElem?_set_self hi] at h2
   cases h1
   cases h2
   exact owns_stc hown (owns_ne_ty hown hrow.ty (by decide))
  ·rw[List.getElem?_set_ne (Ne.symm e)] at h1 h2
   have o:=(h.own j u g h1 h2).kept hg (h.ap j i u v e h1 hv)
   exact owns_stc o (owns_ne_ty o hrow.ty (by decide))
 ·by_cases e1:j=i
  ·subst e1
   rw[List.getElem?_set_self (by rw[h.len];exact hi)] at h1
   rw[List.getElem?_set_ne hjk] at h2
   cases h1
   rcases hloc with q|⟨m,q,hm⟩
   ·rw[q];exact h.ap j k v x hjk hv h2
   ·refine .inr ?_
    rw[q]
    intro e
    obtain⟨g,hgk⟩:∃g,gs[k]?=some g:=by
     have:k<gs.length:=by rw[←h.len];exact(List.getElem?_eq_some_iff.1 h2).1
     exact⟨_,List.getElem?_eq_getElem this⟩
    have:=((h.own k x g h2 hgk).lt m e.symm).2
    omega
  ·rw[List.getElem?_set_ne (Ne.symm e1)] at h1
   by_cases e2:k=i
   ·subst e2
    rw[List.getElem?_set_self (by rw[h.len];exact hi)] at h2
    cases h2
    rcases hloc with q|⟨m,q,hm⟩
    ·rw[q];exact h.ap j k u v hjk h1 hv
    ·rcases h.ap j k u v hjk h1 hv with z|z
     ·exact .inl z
     ·cases hz:u.ownBlock with
      |none=>exact .inl rfl
      |some g0=>
       refine .inr ?_
       rw[q]
       intro e
       injection e with e
       obtain⟨g,hgk⟩:∃g,gs[j]?=some g:=by
        have:j<gs.length:=by rw[←h.len];exact(List.getElem?_eq_some_iff.1 h1).1
        exact⟨_,List.getElem?_eq_getElem this⟩
       have:=((h.own j u g h1 hgk).lt g0 hz).2
       omega
   ·rw[List.getElem?_set_ne (Ne.symm e2)] at h2
    exact h.ap j k u x hjk h1 h2
theorem GAt.new{base:Nat}{w:World}{GB n:Nat}(h:Row w GB 38 (List.replicate n (.slice none 0 0))):GAt base w GB (List.replicate n (.slice none 0 0)) (List.replicate n []):=by
 refine⟨by simp,h,fun i v g h1 h2=>?_,fun i j u v _ h1 _=> .inl ?_⟩
 ·rw[List.getElem?_replicate] at h1 h2
  split at h1
  ·cases h1;rename_i q;rw[if_pos q] at h2;cases h2;exact World.ownsRow_nil _ _ _ _
  ·cases h1
 ·rw[List.getElem?_replicate] at h1
  split at h1
  ·cases h1;rfl
  ·cases h1
def St8(base:Nat)(wr:World)(va:Option Addr)(vc:Nat)(gi:List Int)(x:Int)(t45:Value)(w:World):Bool→Prop
 |false=>Gr wr w
 |true=>wr.grownBy w (Value.slice va gi.length vc).ownBlock∧w.ownsRow base 3 1 t45 (gi++ [x]).length (nums (gi++ [x]))∧(t45.ownBlock=(Value.slice va gi.length vc).ownBlock∨∃k,t45.ownBlock=some k∧wr.heap.size≤k)
structure G8(base:Nat)(wr:World)(GB LB:Nat)(vs lb:List Value)(va:Option Addr)(vc:Nat)(gi:List Int)(x:Int)(t45:Value)(d:Array Bool)(w:World):Prop where
 box:Row w LB 40 lb
 row:Row w GB 38 vs
 st:St8 base wr va vc gi x t45 w (d.getD 11 false)
theorem G8.step{base:Nat}{wr:World}{GB LB:Nat}{vs lb:List Value}{va:Option Addr}{vc:Nat}{gi:List Int}{x:Int}{t45:Value}{d:Array Bool}{w:World}{i:Nat}(h:G8 base wr GB LB vs lb va vc gi x t45 d w)(h11:i≠11):G8 base wr GB LB vs lb va vc gi x t45 (d.setIfInBounds i true) w:=
 ⟨h.box,h.row,by rw[getD_set_ne false h11];exact h.st⟩
def Fin8(base:Nat)(wr:World)(GB LB:Nat)(vs lb:List Value)(va:Option Addr)(vc:Nat)(gi:List Int)(x:Int)(i:Nat)(w:World):Prop:=
 ∃t45 w1,w=w1.setCell ⟨GB,i,none⟩ t45∧Row w1 LB 40 lb∧Row w1 GB 38 vs∧St8 base wr va vc gi x t45 w1 true
def gr8F(wr wb:World)(GB LB:Nat)(vs lb:List Value)(va:Option Addr)(vc:Nat)(gi:List Int)(x:Int)(n cn i:Nat)(t34 t35 t36 t37 t38 t39 t40 t41 t42 t43 t44 t45 t46:Value)(d:Array Bool)(w:World):Prop:=
 (d.getD 13 false=false→G8 wb.heap.size wr GB LB vs lb va vc gi x t45 d w)∧(d.getD 0 false=true→t34= .slice (some ⟨GB,0,none⟩) n cn)∧
 (d.getD 1 false=true→t35= .pointer (some ⟨LB,0,none⟩))∧
 (d.getD 2 false=true→t36= .int .i64 (i:Int))∧
 (d.getD 3 false=true→t37= .slice (some ⟨GB,0,none⟩) n cn)∧
 (d.getD 4 false=true→t38= .pointer (some ⟨LB,0,none⟩))∧
 (d.getD 5 false=true→t39= .int .i64 (i:Int))∧
 (d.getD 6 false=true→t40= .pointer (some ⟨GB,i,none⟩))∧
 (d.getD 7 false=true→t41= .slice va gi.length vc)∧
 (d.getD 8 false=true→t42= .pointer (some ⟨LB,1,none⟩))∧
 (d.getD 9 false=true→t43= .int .i64 x)∧
 (d.getD 10 false=true→∃B,t44= .slice (some ⟨B,0,none⟩) 1 1∧(d.getD 11 false=false→Row w B 3 (nums [x])))∧
 (d.getD 11 false=true→(d.getD 7 false=true∧d.getD 10 false=true))∧
 (d.getD 12 false=true→t46= .pointer (some ⟨GB,i,none⟩))∧
 (d.getD 13 false=true→((∀j,j<13→d.getD j false=true)∧Fin8 wb.heap.size wr GB LB vs lb va vc gi x i w))
def gr8A(GB LB n cn:Nat)(t34 t35 t36 t37 t38 t39 t40 t41 t42 t43 t44 t45 t46 s0 s1 s2 s3 s4 s5 s6 s7 s8 s9 s11 s13 s14 s15 s16 s17 s18 s19 s20 s21 s22 s23 s24 s25 s26 s27 s28 s29 s30 s31 s32 s33 s47 s48 s49 s50 s51 s52 s53 s54 s55 s56 s57 s58 s59 s60 s61 s62 s63 s64 s65 s66 s67:Value):Act:={tmps:= #[s0,s1,s2,s3,s4,s5,s6,s7,s8,s9,.slice (some ⟨GB,0,none⟩) n cn,s11,.pointer (some ⟨LB,0,none⟩),s13,s14,s15,s16,s17,s18,s19,s20,s21,s22,s23,s24,s25,s26,s27,s28,s29,s30,s31,s32,s33,t34,t35,t36,t37,t38,t39,t40,t41,t42,t43,t44,t45,t46,s47,s48,s49,s50,s51,s52,s53,s54,s55,s56,s57,s58,s59,s60,s61,s62,s63,s64,s65,s66,s67],defers:= []}
theorem gr8{Q:Exit→Act→World→Prop}{wr wb:World}{GB LB:Nat}{vs lb:List Value}{va:Option Addr}{vc:Nat}{gi:List Int}{x:Int}{n cn i:Nat}{gs:List (List Int)}{s0 s1 s2 s3 s4 s5 s6 s7 s8 s9 s11 s13 s14 s15 s16 s17 s18 s19 s20 s21 s22 s23 s24 s25 s26 s27 s28 s29 s30 s31 s32 s33 s34 s35 s36 s37 s38 s39 s40 s41 s42 s43 s44 s45 s46 s47 s48 s49 s50 s51 s52 s53 s54 s55 s56 s57 s58 s59 s60 s61 s62 s63 s64 s65 s66 s67:Value}(hg:GAt wb.heap.size wr GB vs gs)(hvi:vs[i]?=some (.slice va gi.length vc))(how:wr.ownsRow wb.heap.size 3 1 (.slice va gi.length vc) gi.length (nums gi))(hlb:lb[0]?=some (.int .i64 (i:Int))∧lb[1]?=some (.int .i64 x))(hbox:Row wr LB 40 lb)(hin:i<n)(hgl:gi.length≤100000)(hbs:wb.heap.size≤wr.heap.size)
  (h':∀t34 t35 t36 t37 t38 t39 t40 t41 t42 t43 t44 t45 t46 wx,Fin8 wb.heap.size wr GB LB vs lb va vc gi x i wx→Q .normal (gr8A GB LB n cn t34 t35 t36 t37 t38 t39 t40 t41 t42 t43 t44 t45 t46 s0 s1 s2 s3 s4 s5 s6 s7 s8 s9 s11 s13 s14 s15 s16 s17 s18 s19 s20 s21 s22 s23 s24 s25 s26 s27 s28 s29 s30 s31 s32 s33 s47 s48 s49 s50 s51 s52 s53 s54 s55 s56 s57 s58 s59 s60 s61 s62 s63 s64 s65 s66 s67) wx):
  (Code.region 8 (regIn 8 Tryz.f53) true).wp Tryz.prog Q {tmps:= #[s0,s1,s2,s3,s4,s5,s6,s7,s8,s9,.slice (some ⟨GB,0,none⟩) n cn,s11,.pointer (some ⟨LB,0,none⟩),s13,s14,s15,s16,s17,s18,s19,s20,s21,s22,s23,s24,s25,s26,s27,s28,s29,s30,s31,s32,s33,s34,s35,s36,s37,s38,s39,s40,s41,s42,s43,s44,s45,s46,s47,s48,s49,s50,s51,s52,s53,s54,s55,s56,s57,s58,s59,s60,s61,s62,s63,s64,s65,s66,s67],defers:= []} wr:=by
 have HVI:=PLift.up hvi
 have HOW:=PLift.up how
 have HIN:=PLift.up hin
 have HGL:=PLift.up hgl
 have HBS:=PLift.up hbs
 have HLB:=PLift.up hlb
 have HBX:=PLift.up hbox
 have HRW:=PLift.up hg.row
 clear hvi how hin hgl hbs hlb hbox hg
 obtain⟨j0,hj,hy0,hy1,hy2⟩:=info_parts infoInt
 simp only[regIn,Tryz.f53,regOps,Option.bind_some,Option.getD_some,Nat.beq,cond_true,cond_false]
 refine wp_region_steps (fun done a w=>∃t34 t35 t36 t37 t38 t39 t40 t41 t42 t43 t44 t45 t46,a=gr8A GB LB n cn t34 t35 t36 t37 t38 t39 t40 t41 t42 t43 t44 t45 t46 s0 s1 s2 s3 s4 s5 s6 s7 s8 s9 s11 s13 s14 s15 s16 s17 s18 s19 s20 s21 s22 s23 s24 s25 s26 s27 s28 s29 s30 s31 s32 s33 s47 s48 s49 s50 s51 s52 s53 s54 s55 s56 s57 s58 s59 s60 s61 s62 s63 s64 s65 s66 s67∧gr8F wr wb GB LB vs lb va vc gi x n cn i t34 t35 t36 t37 t38 t39 t40 t41 t42 t43 t44 t45 t46 done w) (by kernel_rfl) (by kernel_rfl) ?_ ⟨?_,?_,?_,?_,?_,?_,?_,?_,?_,?_,?_,?_,?_,?_,trivial⟩ ?_
 ·exact⟨s34,s35,s36,s37,s38,s39,s40,s41,s42,s43,s44,s45,s46,rfl,fun _=>⟨HBX.down.drew,HRW.down.drew,(Gr.refl _).drew⟩,fun q=>absurd q (by decide),fun q=>absurd q (by decide),fun q=>absurd q (by decide),fun q=>absurd q (by decide),fun q=>absurd q (by decide),fun q=>absurd q (by decide),fun q=>absurd q (by decide),fun q=>absurd q (by decide),fun q=>absurd q (by decide),fun q=>absurd q (by decide),fun q=>absurd q (by decide),fun q=>absurd q (by decide),fun q=>absurd q (by decide),fun q=>absurd q (by decide)⟩
 ·rintro done a w hsz hnot hdep ⟨t34,t35,t36,t37,t38,t39,t40,t41,t42,t43,t44,t45,t46,rfl,gw,f0,f1,f2,f3,f4,f5,f6,f7,f8,f9,f10,f11,f12,f13⟩ K hK
  have hn:¬done.getD 0 false=true:=by rw[getD_both hnot];decide
  have n13:done.getD 13 false=false:=by
   cases e:done.getD 13 false with
   |false=>rfl
   |true=>exact absurd ((f13 e).1 0 (by decide)) hn
  replace gw:=gw n13
  have HK:=PLift.up hK
  clear hK
  simp only[gr8A]
  go_simp
  have gg:Gr w w:=Gr.refl _
  refine HK.down _ _ ⟨_,_,_,_,_,_,_,_,_,_,_,_,_,rfl,fun _=>gw.step (by decide),fun _=>rfl,kp f1,kp f2,kp f3,kp f4,kp f5,kp f6,kp f7,kp f8,kp f9,fun q=>(let⟨B,e,h2⟩:=f10 (done_old q (by decide));⟨B,e,fun q2=>(h2 (by rw[getD_set_ne false (by decide)] at q2;exact q2)).gr gg⟩),fun q=>(let h:=f11 (done_old q (by decide));⟨getD_set_true h.1,getD_set_true h.2⟩),kp f12,fun q=>absurd ((f13 (done_old q (by decide))).1 0 (by decide)) hn⟩
 ·rintro done a w hsz hnot hdep ⟨t34,t35,t36,t37,t38,t39,t40,t41,t42,t43,t44,t45,t46,rfl,gw,f0,f1,f2,f3,f4,f5,f6,f7,f8,f9,f10,f11,f12,f13⟩ K hK
  have hn:¬done.getD 1 false=true:=by rw[getD_both hnot];decide
  have n13:done.getD 13 false=false:=by
   cases e:done.getD 13 false with
   |false=>rfl
   |true=>exact absurd ((f13 e).1 1 (by decide)) hn
  replace gw:=gw n13
  have HK:=PLift.up hK
  clear hK
  simp only[gr8A]
  go_simp
  have gg:Gr w w:=Gr.refl _
  refine HK.down _ _ ⟨_,_,_,_,_,_,_,_,_,_,_,_,_,rfl,fun _=>gw.step (by decide),kp f0,fun _=>rfl,kp f2,kp f3,kp f4,kp f5,kp f6,kp f7,kp f8,kp f9,fun q=>(let⟨B,e,h2⟩:=f10 (done_old q (by decide));⟨B,e,fun q2=>(h2 (by rw[getD_set_ne false (by decide)] at q2;exact q2)).gr gg⟩),fun q=>(let h:=f11 (done_old q (by decide));⟨getD_set_true h.1,getD_set_true h.2⟩),kp f12,fun q=>absurd ((f13 (done_old q (by decide))).1 1 (by decide)) hn⟩
 ·rintro done a w hsz hnot hdep ⟨t34,t35,t36,t37,t38,t39,t40,t41,t42,t43,t44,t45,t46,rfl,gw,f0,f1,f2,f3,f4,f5,f6,f7,f8,f9,f10,f11,f12,f13⟩ K hK
  have hn:¬done.getD 2 false=true:=by rw[getD_both hnot];decide
  have d1:=hdep 1 (by kernel_rfl)
  obtain rfl:=f1 d1
  have n13:done.getD 13 false=false:=by
   cases e:done.getD 13 false with
   |false=>rfl
   |true=>exact absurd ((f13 e).1 2 (by decide)) hn
  replace gw:=gw n13
  have c0:w.cell? ⟨LB,0,none⟩=some (.int .i64 (i:Int)):=by have:=gw.box.cell 0 (List.getElem?_eq_some_iff.1 HLB.down.1).1;rw[this];exact congrArg some (List.getElem?_eq_some_iff.1 HLB.down.1).2
  have c1:w.cell? ⟨LB,1,none⟩=some (.int .i64 x):=by have:=gw.box.cell 1 (List.getElem?_eq_some_iff.1 HLB.down.2).1;rw[this];exact congrArg some (List.getElem?_eq_some_iff.1 HLB.down.2).2
  have ch:=has_of_cell c0
  have HK:=PLift.up hK
  clear hK d1
  simp only[gr8A]
  go_simp
  have gg:Gr w w:=Gr.refl _
  refine HK.down _ _ ⟨_,_,_,_,_,_,_,_,_,_,_,_,_,rfl,fun _=>gw.step (by decide),kp f0,kp f1,fun _=>rfl,kp f3,kp f4,kp f5,kp f6,kp f7,kp f8,kp f9,fun q=>(let⟨B,e,h2⟩:=f10 (done_old q (by decide));⟨B,e,fun q2=>(h2 (by rw[getD_set_ne false (by decide)] at q2;exact q2)).gr gg⟩),fun q=>(let h:=f11 (done_old q (by decide));⟨getD_set_true h.1,getD_set_true h.2⟩),kp f12,fun q=>absurd ((f13 (done_old q (by decide))).1 2 (by decide)) hn⟩
 ·rintro done a w hsz hnot hdep ⟨t34,t35,t36,t37,t38,t39,t40,t41,t42,t43,t44,t45,t46,rfl,gw,f0,f1,f2,f3,f4,f5,f6,f7,f8,f9,f10,f11,f12,f13⟩ K hK
  have hn:¬done.getD 3 false=true:=by rw[getD_both hnot];decide
  have n13:done.getD 13 false=false:=by
   cases e:done.getD 13 false with
   |false=>rfl
   |true=>exact absurd ((f13 e).1 3 (by decide)) hn
  replace gw:=gw n13
  have HK:=PLift.up hK
  clear hK
  simp only[gr8A]
  go_simp
  have gg:Gr w w:=Gr.refl _
  refine HK.down _ _ ⟨_,_,_,_,_,_,_,_,_,_,_,_,_,rfl,fun _=>gw.step (by decide),kp f0,kp f1,kp f2,fun _=>rfl,kp f4,kp f5,kp f6,kp f7,kp f8,kp f9,fun q=>(let⟨B,e,h2⟩:=f10 (done_old q (by decide));⟨B,e,fun q2=>(h2 (by rw[getD_set_ne false (by decide)] at q2;exact q2)).gr gg⟩),fun q=>(let h:=f11 (done_old q (by decide));⟨getD_set_true h.1,getD_set_true h.2⟩),kp f12,fun q=>absurd ((f13 (done_old q (by decide))).1 3 (by decide)) hn⟩
 ·rintro done a w hsz hnot hdep ⟨t34,t35,t36,t37,t38,t39,t40,t41,t42,t43,t44,t45,t46,rfl,gw,f0,f1,f2,f3,f4,f5,f6,f7,f8,f9,f10,f11,f12,f13⟩ K hK
  have hn:¬done.getD 4 false=true:=by rw[getD_both hnot];decide
  have n13:done.getD 13 false=false:=by
   cases e:done.getD 13 false with
   |false=>rfl
   |true=>exact absurd ((f13 e).1 4 (by decide)) hn
  replace gw:=gw n13
  have HK:=PLift.up hK
  clear hK
  simp only[gr8A]
  go_simp
  have gg:Gr w w:=Gr.refl _
  refine HK.down _ _ ⟨_,_,_,_,_,_,_,_,_,_,_,_,_,rfl,fun _=>gw.step (by decide),kp f0,kp f1,kp f2,kp f3,fun _=>rfl,kp f5,kp f6,kp f7,kp f8,kp f9,fun q=>(let⟨B,e,h2⟩:=f10 (done_old q (by decide));⟨B,e,fun q2=>(h2 (by rw[getD_set_ne false (by decide)] at q2;exact q2)).gr gg⟩),fun q=>(let h:=f11 (done_old q (by decide));⟨getD_set_true h.1,getD_set_true h.2⟩),kp f12,fun q=>absurd ((f13 (done_old q (by decide))).1 4 (by decide)) hn⟩
 ·rintro done a w hsz hnot hdep ⟨t34,t35,t36,t37,t38,t39,t40,t41,t42,t43,t44,t45,t46,rfl,gw,f0,f1,f2,f3,f4,f5,f6,f7,f8,f9,f10,f11,f12,f13⟩ K hK
  have hn:¬done.getD 5 false=true:=by rw[getD_both hnot];decide
  have d4:=hdep 4 (by kernel_rfl)
  obtain rfl:=f4 d4
  have n13:done.getD 13 false=false:=by
   cases e:done.getD 13 false with
   |false=>rfl
   |true=>exact absurd ((f13 e).1 5 (by decide)) hn
  replace gw:=gw n13
  have c0:w.cell? ⟨LB,0,none⟩=some (.int .i64 (i:Int)):=by have:=gw.box.cell 0 (List.getElem?_eq_some_iff.1 HLB.down.1).1;rw[this];exact congrArg some (List.getElem?_eq_some_iff.1 HLB.down.1).2
  have c1:w.cell? ⟨LB,1,none⟩=some (.int .i64 x):=by have:=gw.box.cell 1 (List.getElem?_eq_some_iff.1 HLB.down.2).1;rw[this];exact congrArg some (List.getElem?_eq_some_iff.1 HLB.down.2).2
  have ch:=has_of_cell c0
  have HK:=PLift.up hK
  clear hK d4
  simp only[gr8A]
  go_simp
  have gg:Gr w w:=Gr.refl _
  refine HK.down _ _ ⟨_,_,_,_,_,_,_,_,_,_,_,_,_,rfl,fun _=>gw.step (by decide),kp f0,kp f1,kp f2,kp f3,kp f4,fun _=>rfl,kp f6,kp f7,kp f8,kp f9,fun q=>(let⟨B,e,h2⟩:=f10 (done_old q (by decide));⟨B,e,fun q2=>(h2 (by rw[getD_set_ne false (by decide)] at q2;exact q2)).gr gg⟩),fun q=>(let h:=f11 (done_old q (by decide));⟨getD_set_true h.1,getD_set_true h.2⟩),kp f12,fun q=>absurd ((f13 (done_old q (by decide))).1 5 (by decide)) hn⟩
 ·rintro done a w hsz hnot hdep ⟨t34,t35,t36,t37,t38,t39,t40,t41,t42,t43,t44,t45,t46,rfl,gw,f0,f1,f2,f3,f4,f5,f6,f7,f8,f9,f10,f11,f12,f13⟩ K hK
  have hn:¬done.getD 6 false=true:=by rw[getD_both hnot];decide
  have d3:=hdep 3 (by kernel_rfl)
  have d5:=hdep 5 (by kernel_rfl)
  obtain rfl:=f3 d3
  obtain rfl:=f5 d5
  have n13:done.getD 13 false=false:=by
   cases e:done.getD 13 false with
   |false=>rfl
   |true=>exact absurd ((f13 e).1 6 (by decide)) hn
  replace gw:=gw n13
  have k2:(i:Int)<n:=by have:=HIN.down;omega
  have HK:=PLift.up hK
  clear hK d3 d5
  simp only[gr8A]
  go_simp
  have gg:Gr w w:=Gr.refl _
  refine HK.down _ _ ⟨_,_,_,_,_,_,_,_,_,_,_,_,_,rfl,fun _=>gw.step (by decide),kp f0,kp f1,kp f2,kp f3,kp f4,kp f5,fun _=>rfl,kp f7,kp f8,kp f9,fun q=>(let⟨B,e,h2⟩:=f10 (done_old q (by decide));⟨B,e,fun q2=>(h2 (by rw[getD_set_ne false (by decide)] at q2;exact q2)).gr gg⟩),fun q=>(let h:=f11 (done_old q (by decide));⟨getD_set_true h.1,getD_set_true h.2⟩),kp f12,fun q=>absurd ((f13 (done_old q (by decide))).1 6 (by decide)) hn⟩
 ·rintro done a w hsz hnot hdep ⟨t34,t35,t36,t37,t38,t39,t40,t41,t42,t43,t44,t45,t46,rfl,gw,f0,f1,f2,f3,f4,f5,f6,f7,f8,f9,f10,f11,f12,f13⟩ K hK
  have hn:¬done.getD 7 false=true:=by rw[getD_both hnot];decide
  have d6:=hdep 6 (by kernel_rfl)
  obtain rfl:=f6 d6
  have n13:done.getD 13 false=false:=by
   cases e:done.getD 13 false with
   |false=>rfl
   |true=>exact absurd ((f13 e).1 7 (by decide)) hn
  replace gw:=gw n13
  have hil:i<vs.length:=(List.getElem?_eq_some_iff.1 HVI.down).1
  have c9:w.cell? ⟨GB,i,none⟩=some (.slice va gi.length vc):=by rw[gw.row.cell i hil];exact congrArg some (List.getElem?_eq_some_iff.1 HVI.down).2
  have ch:=has_of_cell c9
  have HK:=PLift.up hK
  clear hK d6
  simp only[gr8A]
  go_simp
  have gg:Gr w w:=Gr.refl _
  refine HK.down _ _ ⟨_,_,_,_,_,_,_,_,_,_,_,_,_,rfl,fun _=>gw.step (by decide),kp f0,kp f1,kp f2,kp f3,kp f4,kp f5,kp f6,fun _=>rfl,kp f8,kp f9,fun q=>(let⟨B,e,h2⟩:=f10 (done_old q (by decide));⟨B,e,fun q2=>(h2 (by rw[getD_set_ne false (by decide)] at q2;exact q2)).gr gg⟩),fun q=>absurd (f11 (done_old q (by decide))).1 hn,kp f12,fun q=>absurd ((f13 (done_old q (by decide))).1 7 (by decide)) hn⟩
 ·rintro done a w hsz hnot hdep ⟨t34,t35,t36,t37,t38,t39,t40,t41,t42,t43,t44,t45,t46,rfl,gw,f0,f1,f2,f3,f4,f5,f6,f7,f8,f9,f10,f11,f12,f13⟩ K hK
  have hn:¬done.getD 8 false=true:=by rw[getD_both hnot];decide
  have n13:done.getD 13 false=false:=by
   cases e:done.getD 13 false with
   |false=>rfl
   |true=>exact absurd ((f13 e).1 8 (by decide)) hn
  replace gw:=gw n13
  have HK:=PLift.up hK
  clear hK
  simp only[gr8A]
  go_simp
  have gg:Gr w w:=Gr.refl _
  refine HK.down _ _ ⟨_,_,_,_,_,_,_,_,_,_,_,_,_,rfl,fun _=>gw.step (by decide),kp f0,kp f1,kp f2,kp f3,kp f4,kp f5,kp f6,kp f7,fun _=>rfl,kp f9,fun q=>(let⟨B,e,h2⟩:=f10 (done_old q (by decide));⟨B,e,fun q2=>(h2 (by rw[getD_set_ne false (by decide)] at q2;exact q2)).gr gg⟩),fun q=>(let h:=f11 (done_old q (by decide));⟨getD_set_true h.1,getD_set_true h.2⟩),kp f12,fun q=>absurd ((f13 (done_old q (by decide))).1 8 (by decide)) hn⟩
 ·rintro done a w hsz hnot hdep ⟨t34,t35,t36,t37,t38,t39,t40,t41,t42,t43,t44,t45,t46,rfl,gw,f0,f1,f2,f3,f4,f5,f6,f7,f8,f9,f10,f11,f12,f13⟩ K hK
  have hn:¬done.getD 9 false=true:=by rw[getD_both hnot];decide
  have d8:=hdep 8 (by kernel_rfl)
  obtain rfl:=f8 d8
  have n13:done.getD 13 false=false:=by
   cases e:done.getD 13 false with
   |false=>rfl
   |true=>exact absurd ((f13 e).1 9 (by decide)) hn
  replace gw:=gw n13
  have c0:w.cell? ⟨LB,0,none⟩=some (.int .i64 (i:Int)):=by have:=gw.box.cell 0 (List.getElem?_eq_some_iff.1 HLB.down.1).1;rw[this];exact congrArg some (List.getElem?_eq_some_iff.1 HLB.down.1).2
  have c1:w.cell? ⟨LB,1,none⟩=some (.int .i64 x):=by have:=gw.box.cell 1 (List.getElem?_eq_some_iff.1 HLB.down.2).1;rw[this];exact congrArg some (List.getElem?_eq_some_iff.1 HLB.down.2).2
  have ch:=has_of_cell c0
  have HK:=PLift.up hK
  clear hK d8
  simp only[gr8A]
  go_simp
  have gg:Gr w w:=Gr.refl _
  refine HK.down _ _ ⟨_,_,_,_,_,_,_,_,_,_,_,_,_,rfl,fun _=>gw.step (by decide),kp f0,kp f1,kp f2,kp f3,kp f4,kp f5,kp f6,kp f7,kp f8,fun _=>rfl,fun q=>(let⟨B,e,h2⟩:=f10 (done_old q (by decide));⟨B,e,fun q2=>(h2 (by rw[getD_set_ne false (by decide)] at q2;exact q2)).gr gg⟩),fun q=>(let h:=f11 (done_old q (by decide));⟨getD_set_true h.1,getD_set_true h.2⟩),kp f12,fun q=>absurd ((f13 (done_old q (by decide))).1 9 (by decide)) hn⟩
 ·rintro done a w hsz hnot hdep ⟨t34,t35,t36,t37,t38,t39,t40,t41,t42,t43,t44,t45,t46,rfl,gw,f0,f1,f2,f3,f4,f5,f6,f7,f8,f9,f10,f11,f12,f13⟩ K hK
  have hn:¬done.getD 10 false=true:=by rw[getD_both hnot];decide
  have d9:=hdep 9 (by kernel_rfl)
  obtain rfl:=f9 d9
  have n13:done.getD 13 false=false:=by
   cases e:done.getD 13 false with
   |false=>rfl
   |true=>exact absurd ((f13 e).1 10 (by decide)) hn
  replace gw:=gw n13
  have n11:done.getD 11 false=false:=by
   cases e:done.getD 11 false with
   |false=>rfl
   |true=>exact absurd ((f11 e).2) hn
  have N11:=PLift.up n11
  clear n11
  have HK:=PLift.up hK
  clear hK d9
  simp only[gr8A]
  go_simp
  have gg:Gr w (w.alloc (.cells #[.int .i64 x] 3)):=(Gr.refl _).alloc _
  refine HK.down _ _ ⟨_,_,_,_,_,_,_,_,_,_,_,_,_,rfl,fun _=>⟨gw.box.gr gg,gw.row.gr gg,by rw[getD_set_ne false (by decide),N11.down];exact Gr.trans (by have:=gw.st;rw[N11.down] at this;exact this) gg⟩,kp f0,kp f1,kp f2,kp f3,kp f4,kp f5,kp f6,kp f7,kp f8,kp f9,?_,fun q=>absurd (f11 (done_old q (by decide))).2 hn,kp f12,fun q=>absurd ((f13 (done_old q (by decide))).1 10 (by decide)) hn⟩
  exact fun _=>⟨_,rfl,fun _=>Row.new w _ _⟩
 ·rintro done a w hsz hnot hdep ⟨t34,t35,t36,t37,t38,t39,t40,t41,t42,t43,t44,t45,t46,rfl,gw,f0,f1,f2,f3,f4,f5,f6,f7,f8,f9,f10,f11,f12,f13⟩ K hK
  have hn:¬done.getD 11 false=true:=by rw[getD_both hnot];decide
  have d7:=hdep 7 (by kernel_rfl)
  have d10:=hdep 10 (by kernel_rfl)
  obtain rfl:=f7 d7
  have n13:done.getD 13 false=false:=by
   cases e:done.getD 13 false with
   |false=>rfl
   |true=>exact absurd ((f13 e).1 11 (by decide)) hn
  replace gw:=gw n13
  have n11:=getD_both hnot
  obtain⟨B,rfl,r3⟩:=f10 d10
  have gx:Gr wr w:=by have:=gw.st;rw[n11] at this;exact this
  refine step_append_gets _ rfl _ _ 38 rfl wb.heap.size 3 j0 (.int .i64 0) 1 8 Tryz.underlying38 hj hy0 hy1 hy2 rfl (by decide) (.slice va gi.length vc) gi.length (nums gi) (by simp[Act.eval,gr8A]) (Gr.owns HOW.down gx) (some ⟨B,0,none⟩) 1 1 (nums [x]) (by simp[Act.eval,gr8A]) ⟨rfl,fun _=>⟨_,rfl,row_cells (r3 n11)⟩⟩ (nums_one _) (by unfold maxLen;have:=HGL.down;omega) (by have:=HGL.down;omega) (by have:=gx.size;have:=HBS.down;omega) ?_
  intro v w2 hown hgrow hloc
  refine hK _ _ ⟨_,_,_,_,_,_,_,_,_,_,_,_,_,rfl,fun _=>⟨gw.box.kept hgrow (gw.box.ty.ne (Gr.owns HOW.down gx) (by decide)),gw.row.kept hgrow (gw.row.ty.ne (Gr.owns HOW.down gx) (by decide)),by rw[getD_set_same (by rw[hsz];decide)];exact⟨grown_after gx hgrow,by rw[List.length_append];simpa [nums] using hown,hloc.imp id (fun e=>⟨_,e,gx.size⟩)⟩⟩,kp f0,kp f1,kp f2,kp f3,kp f4,kp f5,kp f6,kp f7,kp f8,kp f9,fun _=>⟨B,rfl,fun q=>absurd q (by rw[getD_set_same (by rw[hsz];decide)];decide)⟩,?_,kp f12,fun q=>absurd ((f13 (done_old q (by decide))).1 11 (by decide)) hn⟩
  exact fun _=>⟨getD_set_true d7,getD_set_true d10⟩
 ·rintro done a w hsz hnot hdep ⟨t34,t35,t36,t37,t38,t39,t40,t41,t42,t43,t44,t45,t46,rfl,gw,f0,f1,f2,f3,f4,f5,f6,f7,f8,f9,f10,f11,f12,f13⟩ K hK
  have hn:¬done.getD 12 false=true:=by rw[getD_both hnot];decide
  have d0:=hdep 0 (by kernel_rfl)
  have d2:=hdep 2 (by kernel_rfl)
  obtain rfl:=f0 d0
  obtain rfl:=f2 d2
  have n13:done.getD 13 false=false:=by
   cases e:done.getD 13 false with
   |false=>rfl
   |true=>exact absurd ((f13 e).1 12 (by decide)) hn
  replace gw:=gw n13
  have k2:(i:Int)<n:=by have:=HIN.down;omega
  have HK:=PLift.up hK
  clear hK d0 d2
  simp only[gr8A]
  go_simp
  have gg:Gr w w:=Gr.refl _
  refine HK.down _ _ ⟨_,_,_,_,_,_,_,_,_,_,_,_,_,rfl,fun _=>gw.step (by decide),kp f0,kp f1,kp f2,kp f3,kp f4,kp f5,kp f6,kp f7,kp f8,kp f9,fun q=>(let⟨B,e,h2⟩:=f10 (done_old q (by decide));⟨B,e,fun q2=>(h2 (by rw[getD_set_ne false (by decide)] at q2;exact q2)).gr gg⟩),fun q=>(let h:=f11 (done_old q (by decide));⟨getD_set_true h.1,getD_set_true h.2⟩),fun _=>rfl,fun q=>absurd ((f13 (done_old q (by decide))).1 12 (by decide)) hn⟩
 ·rintro done a w hsz hnot hdep ⟨t34,t35,t36,t37,t38,t39,t40,t41,t42,t43,t44,t45,t46,rfl,gw,f0,f1,f2,f3,f4,f5,f6,f7,f8,f9,f10,f11,f12,f13⟩ K hK
  have hn:¬done.getD 13 false=true:=by rw[getD_both hnot];decide
  have d0:=hdep 0 (by kernel_rfl)
  have d1:=hdep 1 (by kernel_rfl)
  have d2:=hdep 2 (by kernel_rfl)
  have d3:=hdep 3 (by kernel_rfl)
  have d4:=hdep 4 (by kernel_rfl)
  have d5:=hdep 5 (by kernel_rfl)
  have d6:=hdep 6 (by kernel_rfl)
  have d7:=hdep 7 (by kernel_rfl)
  have d8:=hdep 8 (by kernel_rfl)
  have d9:=hdep 9 (by kernel_rfl)
  have d10:=hdep 10 (by kernel_rfl)
  have d11:=hdep 11 (by kernel_rfl)
  have d12:=hdep 12 (by kernel_rfl)
  obtain rfl:=f0 d0
  obtain rfl:=f1 d1
  obtain rfl:=f2 d2
  obtain rfl:=f3 d3
  obtain rfl:=f4 d4
  obtain rfl:=f5 d5
  obtain rfl:=f6 d6
  obtain rfl:=f7 d7
  obtain rfl:=f8 d8
  obtain rfl:=f9 d9
  obtain rfl:=f12 d12
  have n13:=getD_both hnot
  have g1:=gw n13
  have s1:St8 wb.heap.size wr va vc gi x t45 w true:=by have:=g1.st;rwa [d11] at this
  obtain⟨a5,c5,e5⟩:=owns_slice s1.2.1
  rw[List.length_append] at e5
  simp only[List.length_cons,List.length_nil,Nat.zero_add] at e5
  have D11:=PLift.up d11
  have hil:i<vs.length:=(List.getElem?_eq_some_iff.1 HVI.down).1
  have c9:w.cell? ⟨GB,i,none⟩=some (.slice va gi.length vc):=by rw[g1.row.cell i hil];exact congrArg some (List.getElem?_eq_some_iff.1 HVI.down).2
  have cf:=g1.row.free i
  have ch:=has_of_cell c9
  have FN:=PLift.up (show Fin8 wb.heap.size wr GB LB vs lb va vc gi x i (w.setCell ⟨GB,i,none⟩ t45) from⟨t45,w,rfl,g1.box,g1.row,s1⟩)
  have DD:=PLift.up (show∀j,j<13→done.getD j false=true from by intro j hj;match j,hj with|0,_=>exact d0|1,_=>exact d1|2,_=>exact d2|3,_=>exact d3|4,_=>exact d4|5,_=>exact d5|6,_=>exact d6|7,_=>exact d7|8,_=>exact d8|9,_=>exact d9|10,_=>exact d10|11,_=>exact d11|12,_=>exact d12)
  subst e5
  have HK:=PLift.up hK
  clear hK s1 g1 n13
  simp only[gr8A]
  go_simp
  refine HK.down _ _ ⟨_,_,_,_,_,_,_,_,_,_,_,_,_,rfl,fun q=>absurd q (by rw[getD_set_same (by rw[hsz];decide)];decide),kp f0,kp f1,kp f2,kp f3,kp f4,kp f5,kp f6,kp f7,kp f8,kp f9,fun q=>(let⟨B,e,_⟩:=f10 (done_old q (by decide));⟨B,e,fun q2=>absurd (getD_set_true D11.down) (by rw[q2];decide)⟩),fun q=>(let h:=f11 (done_old q (by decide));⟨getD_set_true h.1,getD_set_true h.2⟩),kp f12,?_⟩
  exact fun _=>⟨fun j hj=>getD_set_true (DD.down j hj),FN.down⟩
 ·rintro done a w hall ⟨t34,t35,t36,t37,t38,t39,t40,t41,t42,t43,t44,t45,t46,rfl,gw,f0,f1,f2,f3,f4,f5,f6,f7,f8,f9,f10,f11,f12,f13⟩
  exact h' _ _ _ _ _ _ _ _ _ _ _ _ _ w (f13 (hall 13 (by decide))).2
end Go.Proofs.YtdjhnfopdlgliaaGreat
