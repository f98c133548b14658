/- Lemmas and contracts for the proof of PointAlone (several texts in one, printed by wip/tools/pack.py): QaO Shelf QaR QaRb QaB. -/
import Derived.Test.YtlmhkjdkcoiioaaGreatDoorAl8pA
import Derived.Test.YtlmhkjdkcoiioaaGreatDoorAl8pf
import Derived.Shelf.Bits.Mul64
import Derived.Ground.Names2Prog
import Derived.Shelf.Slices.SearchI
import Derived.Test.YtlmhkjdkcoiioaaGreatDoorProg
import Derived.Test.YtlmhkjdkcoiioaaGreatDoorAl8pm
import Derived.Test.YtlmhkjdkcoiioaaGreatDoorAl8pp
import Derived.Laws.CopyRow
import Derived.Laws.IdiomCopy
import Derived.Test.YtlmhkjdkcoiioaaGreatDoorAl8pu
import Derived.Test.YtlmhkjdkcoiioaaGreatDoorAl8pv
set_option maxRecDepth 100000
set_option maxHeartbeats 16000000
set_option linter.unusedVariables false
set_option linter.unusedSimpArgs false
namespace Go.Proofs.YtlmhkjdkcoiioaaGreatDoor
open Go.RowKit
open Classical
noncomputable def grt(Rs:List (List Rt))(c:List Scl):List Int:=c.map (fO Rs)
noncomputable def grI(Rs:List (List Rt))(R:List Rt)(c:List Scl)(k:Nat):List Int:=(c.take k).map (fO (Rs++ [R]))++(c.drop k).map (fO Rs)
theorem FN(Rs:List (List Rt))(c:List Scl):(grt Rs c).length=c.length:=by simp[grt]
theorem BD(Rs:List (List Rt))(R:List Rt)(c:List Scl)(k:Nat):(grI Rs R c k).length=c.length:=by simp[grI];omega
theorem TG(Rs:List (List Rt))(R:List Rt)(c:List Scl):grI Rs R c 0=grt Rs c:=by simp[grI,grt]
theorem VP(Rs:List (List Rt))(R:List Rt)(c:List Scl):grI Rs R c c.length=grt (Rs++ [R]) c:=by simp[grI,grt]
theorem Wo(c:List Scl):grt [] c=List.replicate c.length 0:=by refine List.ext_getElem (by simp[grt]) fun i h1 h2=>?_;simp[grt,fO]
theorem Xs(Rs:List (List Rt))(R:List Rt)(c:List Scl){k:Nat}(hk:k<c.length)(h:k<(grI Rs R c k).length):(grI Rs R c k)[k]=fO Rs c[k]:=by
 simp only[grI];rw[List.getElem_append_right (by simp;omega)];have e:((c.take k).map (fO (Rs++ [R]))).length=k:=by simp;omega
 simp only[e,List.getElem_map,List.getElem_drop];congr 2;omega
theorem Wu(Rs:List (List Rt))(R:List Rt)(c:List Scl){k:Nat}(hk:k<c.length){v:Int}(hv:v=max (fO Rs c[k]) (cn R c[k]).1):(grI Rs R c k).set k v=grI Rs R c (k+1):=by
 refine List.ext_getElem (by simp[BD]) fun i h1 h2=>?_;simp only[List.length_set,BD] at h1;rw[List.getElem_set];by_cases e:k=i
 ·subst e;rw[if_pos rfl,hv,<-ES];simp only[grI];rw[List.getElem_append_left (by simp;omega)];simp
 rw[if_neg e];simp only[grI];by_cases q:i<k
 ·rw[List.getElem_append_left (by simp;omega),List.getElem_append_left (by simp;omega)];simp
 rw[List.getElem_append_right (by simp;omega),List.getElem_append_right (by simp;omega)];have e1:((c.take k).map (fO (Rs++ [R]))).length=k:=by simp;omega
 have e2:((c.take (k+1)).map (fO (Rs++ [R]))).length=k+1:=by simp;omega
 simp only[e1,e2,List.getElem_map,List.getElem_drop];congr 2;omega
def Nl(w:World)(ds:List Drw)(en:Int)(e:Ending)(w':World):Prop:=∃a cap,e= .returned (.tuple #[.slice a ds.length cap,.int .i64 en])/\ag 4 cX w' a ds/\Gr w w'
theorem tq{l:List Clk}{p:List Sup}{ss:List (List Int)}{d:List Drw}{c:List Scl}{w w':World}{x:Int}(he:rsE l p ss d c=x)(hx:x≠0)(hg:Gr w w'):Nl w (rsL l p ss d c) (rsE l p ss d c) (.returned (.tuple #[.slice none 0 0,.int .i64 x])) w':=by
 have e:rsL l p ss d c= []:=by unfold rsL;rw[he,if_neg hx]
 rw[e,he];exact⟨none,0,rfl,ag.nil _ _ _ _,hg⟩
theorem Um(Rs:List (List Rt))(x:Scl):(jk Rs x).length<=1:=by unfold jk;split<;>simp
theorem Nw(Rs:List (List Rt))(c:List Scl):(c.flatMap (jk Rs)).length<=c.length:=by
 induction c with
 |nil=>simp
 |cons x c ih=>have:=Um Rs x;rw[List.flatMap_cons,List.length_append,List.length_cons];omega
theorem Lx{Rs:List (List Rt)}{c:List Scl}{k:Nat}(hk:k<c.length):(c.take (k+1)).flatMap (jk Rs)=(c.take k).flatMap (jk Rs)++jk Rs c[k]:=by rw[List.take_succ_eq_append_getElem hk,List.flatMap_append];simp
theorem LH{l:List Clk}{p:List Sup}{c:List Scl}{d:List Drw}(h1:fU l p c)(h2:b7 p d)(Rs:List (List Rt)):∀x∈iG Rs d c,aK x.supply/\aK x.low/\aK x.high/\aK x.load:=by
 have Xc:p.length<=16:=by have hz:=(cW h2.1).1;simp only[jI,not_or] at hz;omega
 intro x hx;rcases List.mem_append.1 hx with q|q
 ·obtain⟨k,hk,rfl⟩:=List.getElem_of_mem q;have:=h2.2.2 k hk;unfold fq at this;unfold aK;omega
 obtain⟨y,hy,ly⟩:=List.mem_flatMap.1 q;have:=h1.2.2.2 y hy;have mb:=oJ Rs y;unfold jk at ly;split at ly
 ·rw[List.mem_singleton.1 ly];obtain⟨_,_,a,b,_⟩:=this;unfold aK;simp only;omega
 cases ly
structure RM(w:World)(al:Option Addr)(n cl Bg:Nat)(g:List Int)(W:World):Prop where
 gr:Gr w W
 rb:Row W w.heap.size 25 [.slice al n cl]
 rg:Row W Bg 3 (an g)
 lt:w.heap.size<Bg
theorem RM.step{w:World}{al:Option Addr}{n cl Bg:Nat}{g:List Int}{W W2:World}(h:RM w al n cl Bg g W)(hg:Gr W W2):RM w al n cl Bg g W2:=⟨h.gr.trans hg,h.rb.gr hg,h.rg.gr hg,h.lt⟩
theorem RM.set{w:World}{al:Option Addr}{n cl Bg:Nat}{g:List Int}{W:World}(h:RM w al n cl Bg g W)(k:Nat)(v:Int):RM w al n cl Bg (g.set k v) (W.setCell ⟨Bg,k,none⟩ (.int .i64 v)):=
 ⟨Gr.setc (by have:=h.lt;omega) h.gr,h.rb.oth (by have:=h.lt;omega),h.rg.iset k v,h.lt⟩
theorem Jg{l:List Clk}{p:List Sup}{ss:List (List Int)}{d:List Drw}{c:List Scl}(h1:fU l p c)(h2:b7 p d)(h3:∀s∈ss,aI l s)(h:IY (fz l ss) c):rsE l p ss d c=9:=by unfold rsE;rw[if_pos ⟨h1,h2,h3⟩,if_pos h]
theorem Ds(l:List Clk)(ss:List (List Int)):(fz l ss).length=ss.length:=by simp[fz]
theorem wI{l:List Clk}{ss:List (List Int)}{m:Nat}(hm:m<ss.length):(fz l ss).take (m+1)=(fz l ss).take m++ [rts l ss[m]]:=by rw[List.take_succ_eq_append_getElem (by rw[Ds];exact hm)];simp[fz]
theorem Ta(l:List Clk)(p:List Sup)(ss:List (List Int))(d:List Drw)(c:List Scl)(al ap aS ad ac:Option Addr)(cl cp cS cd cc:Nat)(w:World)(h1:ag 5 cY w al l)(h2:ag 5 bG w ap p)(h3:ag 1 nP w aS ss)(h4:ag 4 cX w ad d)(h5:ag 3 lN w ac c)
  (f1:Fit l.length) (f2:Fit p.length) (f3:Fit ss.length) (f4:Fit d.length) (f5:Fit c.length) (fs:∀s∈ss,Fit s.length) (ho:kW w):
  Calls Tryz.prog 18 #[.slice al l.length cl,.slice ap p.length cp,.slice aS ss.length cS,.slice ad d.length cd,.slice ac c.length cc] w (Nl w (rsL l p ss d c) (rsE l p ss d c)):=by
 have H1:=aa h1;have H2:=aa h2;have H3:=aa h3;have H4:=aa h4;have H5:=aa h5;have F1:=aa f1;have F2:=aa f2;have F4:=aa f4;have F5:=aa f5;have FS:=aa fs;have HO:=aa ho;have F3:=aa f3;clear h1 h2 h3 h4 h5 f1 f2 f4 f5 fs ho f3;obtain⟨W0,hW0⟩:∃W0:World,W0=w.alloc (.cells #[.slice al l.length cl] 25):=⟨_,rfl⟩;have G0:Hid (Gr w W0):=aa (by rw[hW0];exact(gfl _).alloc _);have R0:Hid (Row W0 w.heap.size 25 [.slice al l.length cl]):=aa (by rw[hW0];exact Row.new _ _ _);have x0:=R0.out.cell 0 (by simp);have xh:=R0.out.has;simp only[List.getElem_cons_zero] at x0;go_enter Tryz.func18,Tryz.ntmps18;go_upto_region 1 with fail;rw[<-hW0];clear hW0;go_wp2_with fail;refine(Ck l p c al ap ac cl cp cc W0 (H1.out.gr cY.mono G0.out) (H2.out.gr bG.mono G0.out) (H5.out.gr lN.mono G0.out) F1.out F2.out F5.out).mono ?_;rintro e w1 ⟨rfl,bD⟩;have G1:=aa (G0.out.trans bD);have R1:=aa (R0.out.gr bD);clear bD R0 G0 x0 xh;by_cases e1:fU l p c
 ·have E1:=aa e1;rw[dtx e1];clear e1;go_wp2_with fail;refine(qd p d ap ad cp cd w1 (H2.out.gr bG.mono G1.out) F2.out (H4.out.gr cX.mono G1.out) F4.out).mono ?_;rintro e w2 ⟨rfl,bY⟩;have G2:=aa (G1.out.trans bY);have R2:=aa (R1.out.gr bY);clear bY R1 G1;by_cases e2:b7 p d
  ·have E2:=aa e2;rw[dtx e2];clear e2;have V:=aa (EG w.heap.size ss aS cS (fun s=>¬aI l s) w2 (H3.out.gr nP.mono G2.out) F3.out (Pu l ss w.heap.size al cl w2 (by have:=R2.out.cell 0 (by simp);simpa using this) (H1.out.gr cY.mono G2.out) F1.out E1.out.1 FS.out));go_wp2_with fail;refine V.out.mono ?_;rintro e w3 ⟨rfl,cG⟩;have G3:=aa (G2.out.trans cG);have R3:=aa (R2.out.gr cG);clear cG R2 G2 V;by_cases e3:lE (fun s=>¬aI l s) ss
   ·have E:Hid (rsE l p ss d c=1):=aa (by unfold rsE;rw[if_neg];rintro⟨_,_,q⟩;obtain⟨k,hk,hq⟩:=e3;exact hq (q _ (List.getElem_mem hk)));rw[dtx e3];clear e3;go_wp2_with fail;refine bodyPost_ret (v:= .tuple #[.slice none 0 0,.int .i64 1]) (by simp[results,Tryz.results18,go_sem]) rfl ?_;exact tq E.out (by decide) G3.out
   have E3:Hid (∀s∈ss,aI l s):=aa (fun s hs=>by
    obtain⟨k,hk,rfl⟩:=List.getElem_of_mem hs;by_cases q:aI l ss[k]
    ·exact q
    exact absurd ⟨k,hk,q⟩ e3)
   rw[dfx e3];clear e3;have YW:c.length<=32:=E1.out.2.2.1;have jV:=run_make_row' (P:=Tryz.prog) 22 3 (.int .i64 0) 8 Tryz.underlying22 eS rfl .i64 .i64 c.length (by omega) (by omega);have RM0:Hid (RM w al l.length cl w3.heap.size (grt [] c) (w3.alloc (.cells (madeCells #[.int .i64 0] c.length) 3))):=aa ⟨G3.out.alloc _,R3.out.alloc _,by rw[Wo];have:=Row.new w3 (madeCells #[.int .i64 0] c.length) 3;rw[rB] at this;simpa [an] using this,R3.out.has⟩
   go_wp2_with fail;clear jV R3;have f3:=F3.out;unfold Fit at f3;go_loopw [45] (fun i wr=>∃m:Nat,m<=ss.length/\i= .int .i64 m/\RM w al l.length cl w3.heap.size (grt ((fz l ss).take m) c) wr/\∀R∈(fz l ss).take m,∀x∈c,(cn R x).2=true) (fun i _=>ss.length-(intOf i).toNat);case atStart=>exact⟨0,Nat.zero_le _,rfl,RM0.out,fun R hR=>by simp at hR⟩
   case round=>
    clear RM0;obtain⟨m,hm,rfl,kQ,hok⟩:=hrel;have M:=aa kQ;have OKR:=aa hok;clear kQ hok;by_cases aA:m<ss.length
    ·obtain⟨bs,os,as2,ct,rfl,s0,zG⟩:=Eb (H3.out.gr nP.mono M.out.gr) aA;have HS2:=aa zG;have sh:=ae s0;have x0:=M.out.rb.cell 0 (by simp);have xh:=M.out.rb.has;simp only[List.getElem_cons_zero] at x0;clear zG;obtain⟨sm,sE⟩:∃sm,ss[m]=sm:=⟨_,rfl⟩;have SM:=aa sE;rw[sE] at s0 HS2;have SO:=aa (show aI l sm by rw[<-sE];exact E3.out _ (List.getElem_mem aA));clear sE;go_wp2_with fail;refine(zm l sm al as2 cl ct wr (H1.out.gr cY.mono M.out.gr) HS2.out E1.out.1 SO.out (HO.out.gr M.out.gr)).mono ?_;rintro e w5 ⟨KB,rfl,rt,kR,jl⟩;have M5:=aa (M.out.step jl);have RK:=aa rt;have KN:Hid (w3.heap.size<KB):=aa (by have:=M.out.rg.has;unfold Has at this;omega);clear rt kR jl x0 xh s0 sh HS2;go_wp2_with fail;go_loopw [57] (fun i wr=>∃k:Nat,k<=c.length/\i= .int .i64 k/\RM w al l.length cl w3.heap.size (grI ((fz l ss).take m) (rts l sm) c k) wr/\Row wr KB 57 (gu ((rts l sm).map prR))/\∀j (hj:j<k) (lA:j<c.length),(cn (rts l sm) c[j]).2=true) (fun i _=>c.length-(intOf i).toNat);case atStart=>exact⟨0,Nat.zero_le _,rfl,by rw[TG];exact M5.out,RK.out,fun j hj=>absurd hj (by omega)⟩
     case round=>
      clear M5 RK M;obtain⟨k,hk,rfl,kQ,hrk,hok⟩:=hrel;have M:=aa kQ;have RK:=aa hrk;have OKJ:=aa hok;clear kQ hrk hok;by_cases gI:k<c.length
      ·obtain⟨bx,ox,rfl,⟨q0,v0⟩,⟨q1,v1⟩,ax,cax,q2,l2,fx,s2⟩:=(H5.out.gr lN.mono M.out.gr) k gI;have SC:=E1.out.2.2.2 _ (List.getElem_mem gI);have GA:=aa (Xs ((fz l ss).take m) (rts l sm) c gI (by rw[BD];exact gI));have GS:=aa (fun v=>Wu ((fz l ss).take m) (rts l sm) c gI (v:=v));have MB:=oJ ((fz l ss).take m) c[k];have XM:=aa (List.getElem_mem gI);obtain⟨x,hx⟩:∃x,c[k]=x:=⟨_,rfl⟩;rw[hx] at q0 q1 q2 v0 v1 l2 fx s2 SC GA GS MB XM;have HX:=aa hx;have S2:=aa s2;have FX:=aa fx;clear hx s2 fx;obtain⟨i0,i1,_,_,_⟩:=SC;obtain⟨kc,GC⟩:=Int.eq_ofNat_of_zero_le i0;have lkc:kc<(rts l sm).length:=(by rw[kt _ _ SO.out.1.symm];omega);obtain⟨rn,rd,rh⟩:=Ir RK.out lkc;have RW:=vj (R:=rts l sm) (pY E1.out.1 SO.out) lkc;have HN:Hid (cn (rts l sm) x=jK x.points (fW (cZ (rts l sm) kc)) (gC (cZ (rts l sm) kc))):=aa (by unfold cn;rw[GC];rfl);have NB:=uO (rts l sm) x;rw[HN.out] at NB;obtain⟨nn,tZ⟩:∃nn,fW (cZ (rts l sm) kc)=nn:=⟨_,rfl⟩;obtain⟨dd,hdd⟩:∃dd,gC (cZ (rts l sm) kc)=dd:=⟨_,rfl⟩;rw[tZ,hdd] at HN RW NB;rw[tZ] at rn;rw[hdd] at rd;have V1:=aa (fun W' (hW:Gr wr W')=>EA x nn dd ax cax W' (kK S2.out hW) FX.out RW.1 RW.2);rw[GC] at V1 q0;obtain⟨nv,rV⟩:∃nv,(jK x.points nn dd).1=nv:=⟨_,rfl⟩;obtain⟨nb,zB⟩:∃nb,(jK x.points nn dd).2=nb:=⟨_,rfl⟩;rw[rV,zB] at V1;rw[rV] at NB;have N1:=aa (show(cn (rts l sm) x).1=nv by rw[HN.out,rV]);have N2:=aa (show(cn (rts l sm) x).2=nb by rw[HN.out,zB]);have qh:=ae q0;have gk:=M.out.rg.iat k (by rw[BD];exact gI);rw[GA.out] at gk;have gf:=M.out.rg.free k;have gh:=M.out.rg.has;obtain⟨mv,wT⟩:∃mv,fO ((fz l ss).take m) x=mv:=⟨_,rfl⟩;rw[wT] at gk MB GS;have t1:(kc:Int)<l.length:=(by omega);have t2:(k:Int)<c.length:=(by omega);have t3:(0:Int)<=k:=(by omega);have t4:(0:Int)<=kc:=(by omega);clear tZ hdd rV zB GC i0 i1 RW HN wT GA;cases nb with
       |false=>
        have E:=aa (Jg E1.out E2.out E3.out ⟨x,XM.out,rts l sm,by rw[fz,<-SM.out];exact List.mem_map_of_mem (List.getElem_mem aA),N2.out⟩);go_wp2_with fail;refine ar (by kernel_rfl) (by kernel_rfl) ?_;repeat(go_big_quiet_step (first|(go_at_call 74;with_reducible exact bJ (V1.out _ grr))))
        refine wpQuiet_nil ?_;rintro _ ⟨⟨O,dd9⟩,rfl⟩;go_wp2_with fail;refine bodyPost_ret (v:= .tuple #[.slice none 0 0,.int .i64 9]) (by simp[results,Tryz.results18,go_sem]) rfl ?_;exact tq E.out (by decide) ((M.out.gr.alloc _).xt _ _)
       |true=>
        go_wp2_with fail;refine ar (by kernel_rfl) (by kernel_rfl) ?_;repeat(go_big_quiet_step (first|(go_at_call 74;with_reducible exact bJ (V1.out _ grr))))
        refine wpQuiet_nil ?_;rintro _ ⟨⟨O,dd9⟩,rfl⟩;go_wp2_with fail;have GX:=GS.out (max mv nv) (by rw[N1.out]);refine⟨⟨k+1,by omega,rfl,?_,?_,?_⟩,by simp[intOf];omega⟩
        ·rw[<-GX];exact((M.out.set k _).step ((gfl _).alloc _)).step ((gfl _).xt _ _)
        ·exact Row.gr (Row.gr (RK.out.oth (by have:=KN.out;omega)) ((gfl _).alloc _)) ((gfl _).xt _ _)
        intro j hj lA;by_cases e:j=k
        ·subst e;rw[HX.out];exact N2.out
        exact OKJ.out j (by omega) lA
      have Is:k=c.length:=(by omega);go_wp2_with fail;go_roundw;case rel=>
       refine⟨m+1,by omega,by go_num,?_,?_⟩
       ·rw[wI aA,SM.out,<-VP,<-Is];exact M.out
       intro R hR x hx;rw[wI aA,SM.out] at hR;rcases List.mem_append.1 hR with q|q
       ·exact OKR.out R q x hx
       obtain⟨j,hj,rfl⟩:=List.getElem_of_mem hx;rw[List.mem_singleton.1 q];exact OKJ.out j (by omega) hj
      case measure=>simp[intOf];omega
    have Ft:m=ss.length:=(by omega);rw[Ft,List.take_of_length_le (by rw[Ds];exact Nat.le_refl _)] at M OKR;obtain⟨Rs,hRs⟩:∃Rs,fz l ss=Rs:=⟨_,rfl⟩;have EE:Hid (rsE l p ss d c=if 32<(iG Rs d c).length then 3 else 0):=aa (by unfold rsE;rw[if_pos ⟨E1.out,E2.out,E3.out⟩,if_neg,hRs];rintro⟨x,hx,R,hR,q⟩;rw[OKR.out R hR x hx] at q;cases q)
    rw[hRs] at M;have RSQ:=aa hRs;clear OKR hRs Ft hm;have Ys:=E2.out.2.1;go_wp2_with fail;refine(Qd d ad cd wr (H4.out.gr cX.mono M.out.gr) (by omega)).mono ?_;rintro e w5 ⟨v5,rfl,aV,jl⟩;obtain⟨a7,c7,rfl⟩:=be aV;have M5:=aa (M.out.step jl);have O5:=aa aV;have B5:=aa jl.size;have BW:=aa M.out.gr.size;obtain⟨bs,hbs⟩:∃bs,wr.heap.size=bs:=⟨_,rfl⟩;rw[hbs] at O5 B5 BW;clear aV jl M hbs;go_wp2_with fail;go_loopw [21,89] (fun v i wx=>∃(k:Nat) (ds:List Drw) (a:Option Addr) (cp:Nat),k<=c.length/\v= .slice a ds.length cp/\i= .int .i64 k/\ds=d++(c.take k).flatMap (jk Rs)/\wx.ownsRow bs 128 4 (.slice a ds.length cp) ds.length (ds.flatMap eL)/\Gr w wx/\Row wx w3.heap.size 3 (an (grt Rs c))/\bs<=wx.heap.size) (fun v i _=>c.length-(intOf i).toNat);case atStart=>exact⟨0,d,a7,c7,Nat.zero_le _,rfl,rfl,by simp,O5.out,M5.out.gr,M5.out.rg,B5.out⟩
    case round=>
     clear O5 M5 B5;obtain⟨k,ds,a,cp,hk,rfl,rfl,hds,ho,hg,hr,hb⟩:=hrel;have O:=aa ho;have G:=aa hg;have R:=aa hr;have B:=aa hb;have DS:=aa hds;have dl:ds.length<=64:=by rw[hds,List.length_append];have:=Nw Rs (c.take k);rw[List.length_take] at this;omega
     clear ho hg hr hb hds;by_cases gI:k<c.length
     ·obtain⟨bx,ox,rfl,⟨q0,v0⟩,⟨q1,v1⟩,ax,cax,q2,l2,fx,s2⟩:=(H5.out.gr lN.mono G.out) k gI;have GA:(grt Rs c)[k]'(by rw[FN];exact gI)=fO Rs c[k]:=(by simp[grt]);have gk:=R.out.iat k (by rw[FN];exact gI);rw[GA] at gk;have gh:=R.out.has;have qh:=ae q0;have TK:=aa (Lx (Rs:=Rs) gI);obtain⟨mv,wT⟩:∃mv,fO Rs c[k]=mv:=⟨_,rfl⟩;have MV:=aa wT;have GK:Hid (∃q:k<(grt Rs c).length,(grt Rs c)[k]=mv):=aa ⟨by rw[FN];exact gI,by rw[GA,wT]⟩;rw[wT] at gk;clear GA wT s2 fx l2 v0 v1;have t2:(k:Int)<c.length:=(by omega);have t3:(0:Int)<=k:=(by omega);by_cases hp:0<mv
      ·have RX:Hid (jk Rs c[k]= [(⟨c[k].supply,mv,5000,0⟩:Drw)]):=aa (by unfold jk;rw[MV.out,if_pos hp]);go_wp2_with fail;have G6:=aa (G.out.alloc (.cells #[.int .i64 c[k].clock,.int .i64 c[k].supply,.slice ax c[k].points.length cax] 53));have O6:=aa (Gr.owns O.out ((gfl _).alloc (.cells #[.int .i64 c[k].clock,.int .i64 c[k].supply,.slice ax c[k].points.length cax] 53)));have R6:=aa (R.out.gr ((gfl _).alloc (.cells #[.int .i64 c[k].clock,.int .i64 c[k].supply,.slice ax c[k].points.length cax] 53)));refine rz (W0:=w) (bs:=bs) (gs:=grt Rs c) (v:=mv) (sp:=c[k].supply) G6.out ⟨BW.out,by have:=B.out;simp;omega⟩ O6.out dl (Row.new wr _ _) R6.out gI GK.out ?_;intro pM k9 lj k6 lD li lr k8 ib gD wx tX Cv Vh Hl;obtain⟨a8,c8,rfl⟩:=be Cv;have GX:=aa tX;have OX:=aa Cv;have RGX:=aa (Vh _ _ _ (by decide) R6.out);have BX:=aa Hl;clear tX Cv Vh Hl;simp only[rzA];go_wp2_with fail;refine⟨⟨k+1,ds++ [(⟨c[k].supply,mv,5000,0⟩:Drw)],a8,c8,by omega,by simp,rfl,?_,?_,GX.out,RGX.out,BX.out⟩,by simp[intOf];omega⟩
       ·rw[TK.out,RX.out,DS.out,List.append_assoc]
       rw[List.length_append];exact OX.out
      have RX:Hid (jk Rs c[k]= []):=aa (by unfold jk;rw[MV.out,if_neg hp]);go_wp2_with fail;refine⟨⟨k+1,ds,a,cp,by omega,rfl,rfl,?_,Gr.owns O.out ((gfl _).alloc _),G.out.alloc _,R.out.gr ((gfl _).alloc _),by have:=B.out;simp;omega⟩,by simp[intOf];omega⟩;rw[TK.out,RX.out,List.append_nil,DS.out]
     have Is:k=c.length:=(by omega);have DE:Hid (ds=iG Rs d c):=aa (by rw[DS.out,Is,List.take_length];rfl);have SD:=aa (uG O.out (by rw[DE.out];exact LH E1.out E2.out Rs));by_cases JA:32<ds.length
     ·have E:Hid (rsE l p ss d c=3):=aa (by rw[EE.out,<-DE.out,if_pos JA]);have YR:(32:Int)<ds.length:=(by omega);go_wp2_with fail;refine bodyPost_ret (v:= .tuple #[.slice none 0 0,.int .i64 3]) (by simp[results,Tryz.results18,go_sem]) rfl ?_;exact tq E.out (by decide) G.out
     have E:Hid (rsE l p ss d c=0):=aa (by rw[EE.out,<-DE.out,if_neg JA]);have YR:(ds.length:Int)<=32:=(by omega);have EL:Hid (rsL l p ss d c=iG Rs d c):=aa (by unfold rsL;rw[if_pos E.out,RSQ.out]);go_wp2_with fail;refine bodyPost_ret (v:= .tuple #[.slice a ds.length cp,.int .i64 0]) (by simp[results,Tryz.results18,go_sem]) rfl ?_;obtain⟨a9,c9,e9,_,s9⟩:=SD.out;cases e9
     rw[EL.out,<-DE.out,E.out];exact⟨a,cp,rfl,s9,G.out⟩
  have E:Hid (rsE l p ss d c=1):=aa (by unfold rsE;rw[if_neg];rintro⟨_,q,_⟩;exact e2 q);rw[dfx e2];clear e2;go_wp2_with fail;refine bodyPost_ret (v:= .tuple #[.slice none 0 0,.int .i64 1]) (by simp[results,Tryz.results18,go_sem]) rfl ?_;exact tq E.out (by decide) G2.out
 have E:Hid (rsE l p ss d c=1):=aa (by unfold rsE;rw[if_neg];rintro⟨q,_,_⟩;exact e1 q);rw[dfx e1];clear e1;go_wp2_with fail;refine bodyPost_ret (v:= .tuple #[.slice none 0 0,.int .i64 1]) (by simp[results,Tryz.results18,go_sem]) rfl ?_;exact tq E.out (by decide) G1.out
end Go.Proofs.YtlmhkjdkcoiioaaGreatDoor
namespace Go.Proofs
open Go.Shelf
def Tryz.lays212_ren:Go.Shelf.Ren:=⟨fun|212=>185|263=>194|264=>195|n=>n,fun|46=>217|51=>226|146=>227|53=>229|148=>230|n=>n,fun|n=>n⟩
theorem Tryz.lays212:Go.Proofs.Lays.n212 Tryz.prog Tryz.lays212_ren:={
 mixed:=by kernel_rfl
 f212:=Tryz.func185.trans (congrArg some (by kernel_rfl))
 f263:=Tryz.func194.trans (congrArg some (by kernel_rfl))
 f264:=Tryz.func195.trans (congrArg some (by kernel_rfl))
 t46:=Tryz.underlying217
 a46:=Tryz.isAgg217
 z46:=Tryz.sizeOf217
 v46:=Tryz.zeroValue217
 t51:=Tryz.underlying226
 a51:=Tryz.isAgg226
 z51:=Tryz.sizeOf226
 v51:=Tryz.zeroValue226
 t53:=Tryz.underlying229
 a53:=Tryz.isAgg229
 z53:=Tryz.sizeOf229
 v53:=Tryz.zeroValue229
 t146:=Tryz.underlying227
 a146:=Tryz.isAgg227
 z146:=Tryz.sizeOf227
 v146:=Tryz.zeroValue227
 t148:=Tryz.underlying230
 a148:=Tryz.isAgg230
 z148:=Tryz.sizeOf230
 v148:=Tryz.zeroValue230}
open Go.RowKit Go.Lib in
theorem Tryz.bits_Mul(x y:Nat)(hx:x<18446744073709551616)(hy:y<18446744073709551616)(w:World):
  Calls Tryz.prog 185 #[.int .u64 x,.int .u64 y] w fun e w'=>e= .returned (.tuple #[.int .u64 ((x*y/18446744073709551616:Nat):Int),.int .u64 ((x*y%18446744073709551616:Nat):Int)])/\w'=w:=Any.bits_Mul Tryz.lays212 x y hx hy w
def Tryz.laysNm225_ren:Go.Shelf.Ren:=⟨fun|25=>187|31=>196|32=>197|37=>200|n=>n,fun|22=>22|3=>3|4=>4|40=>217|0=>0|n=>n,fun|n=>n⟩
theorem Tryz.laysNm225:Go.Proofs.Lays2.n25 Tryz.prog Tryz.laysNm225_ren:={
 mixed:=by kernel_rfl
 f25:=Tryz.func187.trans (congrArg some (by kernel_rfl))
 f31:=Tryz.func196.trans (congrArg some (by kernel_rfl))
 f32:=Tryz.func197.trans (congrArg some (by kernel_rfl))
 f37:=Tryz.func200.trans (congrArg some (by kernel_rfl))
 t0:=Tryz.underlying0
 a0:=Tryz.isAgg0
 z0:=Tryz.sizeOf0
 v0:=Tryz.zeroValue0
 t3:=Tryz.underlying3
 a3:=Tryz.isAgg3
 z3:=Tryz.sizeOf3
 v3:=Tryz.zeroValue3
 t4:=Tryz.underlying4
 a4:=Tryz.isAgg4
 z4:=Tryz.sizeOf4
 v4:=Tryz.zeroValue4
 t22:=Tryz.underlying22
 a22:=Tryz.isAgg22
 z22:=Tryz.sizeOf22
 v22:=Tryz.zeroValue22
 t40:=Tryz.underlying217
 a40:=Tryz.isAgg217
 z40:=Tryz.sizeOf217
 v40:=Tryz.zeroValue217}
open Go.RowKit Go.Lib in
theorem Tryz.slices_BinarySearch_int(b off n c:Nat)(zs:List Int)(x:Int)(w:World)(hz:n<=zs.length)(uZ:n<4611686018427387904)(hc:∀j,j<zs.length->w.cell? ⟨b,off+j,none⟩=some (.int .i64 (zs.getD j 0)))(hs:(zs.take n).Pairwise (·<= ·)):
  Calls Tryz.prog 187 #[.slice (some ⟨b,off,none⟩) n c,.int .i64 x] w fun e w'=>e= .returned (.tuple #[.int .i64 ((zs.take n).countP (·<x):Nat),.bool ((zs.take n).contains x)])/\∃q,w'=w.drewN q:=Any.slices_BinarySearch_int Tryz.laysNm225 b off n c zs x w hz uZ hc hs
end Go.Proofs
namespace Go.Proofs.YtlmhkjdkcoiioaaGreatDoor
open Go.RowKit
open Classical
def dm(m n:Nat):List Int:=(List.range (3*n)).map fun j=>if j<3*m/\j%3≠0 then -1 else 0
theorem lS(m n:Nat):(dm m n).length=3*n:=by simp[dm]
theorem wJ{m n j:Nat}(h:j<(dm m n).length):(dm m n)[j]=if j<3*m/\j%3≠0 then -1 else 0:=by simp[dm]
theorem Wq(n:Nat):dm 0 n=List.replicate (3*n) 0:=by refine List.ext_getElem (by simp[lS]) fun i h1 h2=>?_;rw[wJ h1];simp
theorem VG{m n k:Nat}(hm:m+k<=n)(hk:k<=m):(dm m n).take (3*m)++((dm m n).take (3*k)++(dm m n).drop (3*m+3*k))=dm (m+k) n:=by
 refine List.ext_getElem (by simp[lS];omega) fun i h1 h2=>?_;rw[wJ h2];simp only[lS] at h2;by_cases a1:i<3*m
 ·rw[List.getElem_append_left (by simp[lS];omega),List.getElem_take,wJ];have e:(i<3*m/\i%3≠0)↔(i<3*(m+k)/\i%3≠0):=by constructor<;>(intro q;exact⟨by omega,q.2⟩)
  simp only[e]
 have l1:((dm m n).take (3*m)).length=3*m:=by simp[lS];omega
 rw[List.getElem_append_right (by omega)];simp only[l1];have l2:((dm m n).take (3*k)).length=3*k:=by simp[lS];omega
 by_cases a2:i-3*m<3*k
 ·rw[List.getElem_append_left (by omega),List.getElem_take,wJ];have e:(i-3*m<3*m/\(i-3*m)%3≠0)↔(i<3*(m+k)/\i%3≠0):=by constructor<;>(intro q;have:=q.2;exact⟨by omega,by omega⟩)
  simp only[e]
 rw[List.getElem_append_right (by omega),List.getElem_drop,wJ];have e:(3*m+3*k+(i-3*m-((dm m n).take (3*k)).length)<3*m/\(3*m+3*k+(i-3*m-((dm m n).take (3*k)).length))%3≠0)↔(i<3*(m+k)/\i%3≠0):=by constructor<;>(intro q;have:=q.1;omega)
 simp only[e]
theorem UJ{n:Nat}(h:1<=n):([0, -1, -1]:List Int)++(dm 0 n).drop 3=dm 1 n:=by
 refine List.ext_getElem (by simp[lS];omega) fun i h1 h2=>?_;rw[wJ h2];by_cases a1:i<3
 ·rw[List.getElem_append_left (by simpa using a1)];obtain rfl|rfl|rfl:i=0∨i=1∨i=2:=by omega
  ·rfl
  ·rfl
  rfl
 rw[List.getElem_append_right (by simpa using a1),List.getElem_drop,wJ];have e:(3+(i- [0, -1, -1].length)<3*0/\(3+(i- [0, -1, -1].length))%3≠0)↔(i<3*1/\i%3≠0):=by constructor<;>(intro q;have:=q.1;omega)
 simp only[e]
theorem Hr{P:Program}(w:World)(dT sT ty elem:TypeId)(sz g o dLen dCap:Nat)(a:Addr)(sLen sCap:Nat)(cur:Array Value)(t:TypeId)(cs:List Value)
  (hu:P.underlying dT=some (.slice elem)) (hs:(P.info? elem).map (·.size)=some sz) (hg:w.heap[g]?=some (.cells cur t (0,0))) (hn:cs.length=Nat.min sLen dLen*sz)
  (Gb:∀j v,cs[j]?=some v->w.cell? (a.add j)=some v) (hfit:o+cs.length<=cur.size) (h1:∀v∈cs,v.oneCell'=true):
  (Builtin.copy_ #[dT,sT] ty #[.slice (some ⟨g,o,none⟩) dLen dCap,.slice (some a) sLen sCap]).run P w=
   .ok (goInt (Nat.min sLen dLen)) (w.setRow g (cur.toList.take o++cs++cur.toList.drop (o+cs.length)).toArray):=by
 have hl:=run_loadCells_list (P:=P) w a cs Gb;have dU:=run_storeCells_at P g o t cs 0 cur w hg (by simpa using hfit) h1;cases hq:P.info? elem with
 |none=>simp[hq] at hs
 |some i=>
  have hi:i.size=sz:=by simpa [hq] using hs
  simp[Builtin.copy_,run_underlying hu,Builtin.lenOf,Builtin.firstCells,sizeOf,typeInfo,hq,hi,<-hn,hl,dU]
theorem EZ{w:World}{g T:Nat}{vs us:List Value}(h:Row w g T vs):Row (w.setRow g us.toArray) g T us:=setRow_heap w g _ _ T _ h
theorem GV{w0 w:World}{g:Nat}{us:Array Value}(h:Gr w0 w)(hb:w0.heap.size<=g):Gr w0 (w.setRow g us):=by refine Gr.of_below ?_;exact h.below.trans ⟨rfl,rfl,rfl,by simp[World.setRow],fun k hk=>setRow_other w g k us (by omega)⟩
theorem Qx{P:Program}{w:World}{ops:Array Oper}{o:Oper}{a:Act}{K:Act->World->Prop}{Q:Exit->Act->World->Prop}{E:Prop}(jv:o.guard=none)(d s:Operand)(dT sT:TypeId)
  (ho:o.op= .call {callee:= .builtin .copy,args:= #[d,s],argTypes:= #[dT,sT]}) (elem:TypeId) (sz:Nat) (hu:P.underlying dT=some (.slice elem)) (iB:(P.info? elem).map (·.size)=some sz)
  (g off dLen dCap:Nat) (ad:Addr) (sLen sCap:Nat) (hd:a.eval d= .slice (some ⟨g,off,none⟩) dLen dCap) (hs:a.eval s= .slice (some ad) sLen sCap) (cur:List Value) (t:TypeId) (hg:Row w g t cur) (cs:List Value) (hn:cs.length=Nat.min sLen dLen*sz)
  (Gb:∀j v,cs[j]?=some v->w.cell? (ad.add j)=some v) (hfit:off+cs.length<=cur.length) (h1:∀v∈cs,v.oneCell'=true)
  (h:K (a.put o.dst (goInt (Nat.min sLen dLen))) (w.setRow g (cur.take off++(cs++cur.drop (off+cs.length))).toArray)):if Region.wanted o (yielded ops a.tmps)=true then Oper.wp P o a w K Q else E:=by
 have hw:Region.wanted o (yielded ops a.tmps)=true:=by simp[Region.wanted,jv]
 rw[if_pos hw];have wk:=Hr (P:=P) w dT sT o.type elem sz g off dLen dCap ad sLen sCap cur.toArray t cs hu iB hg hn Gb (by simpa using hfit) h1;unfold Oper.wp;simp[execOp,ho,resolve,invoke,builtin,hd,hs,wk,Result.andThen];exact h
theorem N5:(Tryz.prog.info? 200).map (·.size)=some 3:=by kernel_rfl
theorem TH:(Tryz.prog.info? 200).map (fun i=>(i.zero,i.size,i.bytes))=some (some (.agg #[.int .i64 0,.int .i64 0,.int .i64 0]),3,24):=by kernel_rfl
theorem zU(xs:List Int)(k:Nat):(an xs).take k=an (xs.take k):=by simp[an,List.map_take]
theorem Hk(xs:List Int)(k:Nat):(an xs).drop k=an (xs.drop k):=by simp[an,List.map_drop]
theorem xI(xs ys:List Int):an (xs++ys)=an xs++an ys:=by simp[an]
def qarbF(W0 wr:World)(g m n k:Nat)(t8 oZ pE mK pW ry Ae Az zZ zA:Value)(d:Array Bool)(w:World):Prop:=
 (Gr W0 w/\(d.getD 7 false=false->Row w g 200 (an (dm m n)))/\(d.getD 9 false=true∨t8= .int .i64 (m:Int)))/\(d.getD 0 false=true->oZ= .int .i64 (m:Int))/\
 (d.getD 1 false=true->pE= .slice (some ⟨g,0,none⟩) n n)/\
 (d.getD 2 false=true->mK= .int .i64 (m:Int))/\
 (d.getD 3 false=true->(d.getD 2 false=true/\pW= .slice (some ⟨g,m*3,none⟩) (n-m) (n-m)))/\
 (d.getD 4 false=true->ry= .slice (some ⟨g,0,none⟩) n n)/\
 (d.getD 5 false=true->Ae= .int .i64 (m:Int))/\
 (d.getD 6 false=true->(d.getD 5 false=true/\Az= .slice (some ⟨g,0,none⟩) m n))/\
 (d.getD 7 false=true->((d.getD 3 false=true/\d.getD 6 false=true)/\zZ= .int .i64 ((k:Nat):Int)/\Row w g 200 (an (dm (m+k) n))))/\
 (d.getD 8 false=true->((d.getD 0 false=true/\d.getD 7 false=true)/\zA= .int .i64 ((m+k:Nat):Int)))/\
 (d.getD 9 false=true->(d.getD 8 false=true/\t8= .int .i64 ((m+k:Nat):Int)))
def oa(g n:Nat)(t8 oZ pE mK pW ry Ae Az zZ zA s0 s1 s2 s3 s4 s5 s6 s9 fQ dR ei cI cJ dc dg dk di cK de dQ dI eG dB dD dv dC du eH eQ eW eO eI ec dP dL dE eF:Value):Act:={tmps:= #[s0,s1,s2,s3,s4,s5,s6,.slice (some ⟨g,0,none⟩) n n,t8,s9,fQ,dR,ei,cI,cJ,dc,dg,dk,di,cK,de,dQ,dI,eG,dB,dD,dv,dC,du,eH,eQ,eW,eO,eI,ec,dP,dL,dE,oZ,pE,mK,pW,ry,Ae,Az,zZ,zA,eF],defers:= []}
theorem qarb{Q:Exit->Act->World->Prop}{W0 wr:World}{g m n k:Nat}{s0 s1 s2 s3 s4 s5 s6 s8 s9 fQ dR ei cI cJ dc dg dk di cK de dQ dI eG dB dD dv dC du eH eQ eW eO eI ec dP dL dE dJ dK dO dM dN eg eY eT eV eF:Value}(hR:Row wr g 200 (an (dm m n)))(hG:Gr W0 wr)(hb:W0.heap.size<=g)(me:1<=m)(hmn:m<n)(hn:n<=16)(hk:Nat.min m (n-m)=k)(h8:s8= .int .i64 (m:Int))
  (h':∀t8 oZ pE mK pW ry Ae Az zZ zA wx,Gr W0 wx->t8= .int .i64 ((m+k:Nat):Int)->Row wx g 200 (an (dm (m+k) n))->Q .normal (oa g n t8 oZ pE mK pW ry Ae Az zZ zA s0 s1 s2 s3 s4 s5 s6 s9 fQ dR ei cI cJ dc dg dk di cK de dQ dI eG dB dD dv dC du eH eQ eW eO eI ec dP dL dE eF) wx):
  (Code.region 9 (fr 9 Tryz.f165) true).wp Tryz.prog Q {tmps:= #[s0,s1,s2,s3,s4,s5,s6,.slice (some ⟨g,0,none⟩) n n,s8,s9,fQ,dR,ei,cI,cJ,dc,dg,dk,di,cK,de,dQ,dI,eG,dB,dD,dv,dC,du,eH,eQ,eW,eO,eI,ec,dP,dL,dE,dJ,dK,dO,dM,dN,eg,eY,eT,eV,eF],defers:= []} wr:=by
 have HR:=PLift.up hR;have HG:=PLift.up hG;have HB:=PLift.up hb;have HM1:=PLift.up me;have HMN:=PLift.up hmn;have HN:=PLift.up hn;have Hq:=PLift.up hk;have K1:PLift (k<=m/\m+k<=n):=PLift.up (by have q1:Nat.min m (n-m)<=m:=Nat.min_le_left _ _;have q2:Nat.min m (n-m)<=n-m:=Nat.min_le_right _ _;omega);clear hR hG hb me hmn hn hk;simp only[fr,Tryz.f165,gM,Option.bind_some,Option.getD_some,Nat.beq,cond_true,cond_false];refine dW (fun done a w=>∃t8 oZ pE mK pW ry Ae Az zZ zA,a=oa g n t8 oZ pE mK pW ry Ae Az zZ zA s0 s1 s2 s3 s4 s5 s6 s9 fQ dR ei cI cJ dc dg dk di cK de dQ dI eG dB dD dv dC du eH eQ eW eO eI ec dP dL dE eF/\qarbF W0 wr g m n k t8 oZ pE mK pW ry Ae Az zZ zA done w) (by kernel_rfl) (by kernel_rfl) ?_ ⟨?_,?_,?_,?_,?_,?_,?_,?_,?_,?_,trivial⟩ ?_
 ·exact⟨s8,dJ,dK,dO,dM,dN,eg,eY,eT,eV,rfl,⟨HG.down.drew,fun _=>HR.down.drew,.inr h8⟩,fun q=>absurd q (by decide),fun q=>absurd q (by decide),fun q=>absurd q (by decide),fun q=>absurd q (by decide),fun q=>absurd q (by decide),fun q=>absurd q (by decide),fun q=>absurd q (by decide),fun q=>absurd q (by decide),fun q=>absurd q (by decide),fun q=>absurd q (by decide)⟩
 rotate_right
 ·rintro done a w aH ⟨t8,oZ,pE,mK,pW,ry,Ae,Az,zZ,zA,rfl,gw,f0,f1,f2,f3,f4,f5,f6,f7,f8,f9⟩;exact h' _ _ _ _ _ _ _ _ _ _ w gw.1 (f9 (aH 9 (by decide))).2 (f7 (aH 7 (by decide))).2.2
 all_goals(rintro done a w iB fD aO ⟨t8,oZ,pE,mK,pW,ry,Ae,Az,zZ,zA,rfl,gw,f0,f1,f2,f3,f4,f5,f6,f7,f8,f9⟩ K hK;have hn:=nd fD;have HK:=PLift.up hK;clear hK)
 ·have n9:¬done.getD 9 false=true:=fun h=>hn (f8 (f9 h).1).1.1;have e8:=gw.2.2.resolve_left n9;subst e8;have GW:=PLift.up gw;clear gw n9;simp only[oa];go_simp;have gg:=gfl w;refine HK.down _ _ ⟨_,_,_,_,_,_,_,_,_,_,rfl,⟨GW.down.1,fun q=>GW.down.2.1 (by rw[getD_set_ne false (by decide)] at q;exact q),GW.down.2.2.imp ak id⟩,fun _=>rfl,kp f1,kp f2,fun q=>(let h:=f3 (aj q (by decide));⟨ak h.1,h.2⟩),kp f4,kp f5,fun q=>(let h:=f6 (aj q (by decide));⟨ak h.1,h.2⟩),fun q=>(let h:=f7 (aj q (by decide));⟨⟨ak h.1.1,ak h.1.2⟩,h.2⟩),fun q=>(let h:=f8 (aj q (by decide));⟨⟨ak h.1.1,ak h.1.2⟩,h.2⟩),fun q=>(let h:=f9 (aj q (by decide));⟨ak h.1,h.2⟩)⟩
 ·simp only[oa];go_simp;have gg:=gfl w;refine HK.down _ _ ⟨_,_,_,_,_,_,_,_,_,_,rfl,⟨gw.1,fun q=>gw.2.1 (by rw[getD_set_ne false (by decide)] at q;exact q),gw.2.2.imp ak id⟩,kp f0,fun _=>rfl,kp f2,fun q=>(let h:=f3 (aj q (by decide));⟨ak h.1,h.2⟩),kp f4,kp f5,fun q=>(let h:=f6 (aj q (by decide));⟨ak h.1,h.2⟩),fun q=>(let h:=f7 (aj q (by decide));⟨⟨ak h.1.1,ak h.1.2⟩,h.2⟩),fun q=>(let h:=f8 (aj q (by decide));⟨⟨ak h.1.1,ak h.1.2⟩,h.2⟩),fun q=>(let h:=f9 (aj q (by decide));⟨ak h.1,h.2⟩)⟩
 ·have n9:¬done.getD 9 false=true:=fun h=>hn (f3 (f7 (f8 (f9 h).1).1.2).1.1).1;have e8:=gw.2.2.resolve_left n9;subst e8;have GW:=PLift.up gw;clear gw n9;simp only[oa];go_simp;have gg:=gfl w;refine HK.down _ _ ⟨_,_,_,_,_,_,_,_,_,_,rfl,⟨GW.down.1,fun q=>GW.down.2.1 (by rw[getD_set_ne false (by decide)] at q;exact q),GW.down.2.2.imp ak id⟩,kp f0,kp f1,fun _=>rfl,fun q=>(let h:=f3 (aj q (by decide));⟨ak h.1,h.2⟩),kp f4,kp f5,fun q=>(let h:=f6 (aj q (by decide));⟨ak h.1,h.2⟩),fun q=>(let h:=f7 (aj q (by decide));⟨⟨ak h.1.1,ak h.1.2⟩,h.2⟩),fun q=>(let h:=f8 (aj q (by decide));⟨⟨ak h.1.1,ak h.1.2⟩,h.2⟩),fun q=>(let h:=f9 (aj q (by decide));⟨ak h.1,h.2⟩)⟩
 ·have d1:=aO 1 (by kernel_rfl);have d2:=aO 2 (by kernel_rfl);obtain rfl:=f1 d1;obtain rfl:=f2 d2;have k1:(m:Int)<n:=by have:=HMN.down;omega
  have k2:m<n:=by have:=HMN.down;omega
  have k3:(m:Int)<=n:=by omega
  have k4:¬n<=m:=by omega
  have D2:=PLift.up d2;clear d1 d2;simp only[oa];go_simp;have gg:=gfl w;refine HK.down _ _ ⟨_,_,_,_,_,_,_,_,_,_,rfl,⟨gw.1,fun q=>gw.2.1 (by rw[getD_set_ne false (by decide)] at q;exact q),gw.2.2.imp ak id⟩,kp f0,kp f1,kp f2,?_,kp f4,kp f5,fun q=>(let h:=f6 (aj q (by decide));⟨ak h.1,h.2⟩),fun q=>(let h:=f7 (aj q (by decide));⟨⟨ak h.1.1,ak h.1.2⟩,h.2⟩),fun q=>(let h:=f8 (aj q (by decide));⟨⟨ak h.1.1,ak h.1.2⟩,h.2⟩),fun q=>(let h:=f9 (aj q (by decide));⟨ak h.1,h.2⟩)⟩;exact fun _=>⟨ak D2.down,by first|rfl|(simp;done)|(simp;omega)⟩
 ·simp only[oa];go_simp;have gg:=gfl w;refine HK.down _ _ ⟨_,_,_,_,_,_,_,_,_,_,rfl,⟨gw.1,fun q=>gw.2.1 (by rw[getD_set_ne false (by decide)] at q;exact q),gw.2.2.imp ak id⟩,kp f0,kp f1,kp f2,fun q=>(let h:=f3 (aj q (by decide));⟨ak h.1,h.2⟩),fun _=>rfl,kp f5,fun q=>(let h:=f6 (aj q (by decide));⟨ak h.1,h.2⟩),fun q=>(let h:=f7 (aj q (by decide));⟨⟨ak h.1.1,ak h.1.2⟩,h.2⟩),fun q=>(let h:=f8 (aj q (by decide));⟨⟨ak h.1.1,ak h.1.2⟩,h.2⟩),fun q=>(let h:=f9 (aj q (by decide));⟨ak h.1,h.2⟩)⟩
 ·have n9:¬done.getD 9 false=true:=fun h=>hn (f6 (f7 (f8 (f9 h).1).1.2).1.2).1;have e8:=gw.2.2.resolve_left n9;subst e8;have GW:=PLift.up gw;clear gw n9;simp only[oa];go_simp;have gg:=gfl w;refine HK.down _ _ ⟨_,_,_,_,_,_,_,_,_,_,rfl,⟨GW.down.1,fun q=>GW.down.2.1 (by rw[getD_set_ne false (by decide)] at q;exact q),GW.down.2.2.imp ak id⟩,kp f0,kp f1,kp f2,fun q=>(let h:=f3 (aj q (by decide));⟨ak h.1,h.2⟩),kp f4,fun _=>rfl,fun q=>(let h:=f6 (aj q (by decide));⟨ak h.1,h.2⟩),fun q=>(let h:=f7 (aj q (by decide));⟨⟨ak h.1.1,ak h.1.2⟩,h.2⟩),fun q=>(let h:=f8 (aj q (by decide));⟨⟨ak h.1.1,ak h.1.2⟩,h.2⟩),fun q=>(let h:=f9 (aj q (by decide));⟨ak h.1,h.2⟩)⟩
 ·have d4:=aO 4 (by kernel_rfl);have d5:=aO 5 (by kernel_rfl);obtain rfl:=f4 d4;obtain rfl:=f5 d5;have k1:(m:Int)<n:=by have:=HMN.down;omega
  have k2:m<=n:=by have:=HMN.down;omega
  have k3:(m:Int)<=n:=by omega
  have D5:=PLift.up d5;clear d4 d5;simp only[oa];go_simp;have gg:=gfl w;refine HK.down _ _ ⟨_,_,_,_,_,_,_,_,_,_,rfl,⟨gw.1,fun q=>gw.2.1 (by rw[getD_set_ne false (by decide)] at q;exact q),gw.2.2.imp ak id⟩,kp f0,kp f1,kp f2,fun q=>(let h:=f3 (aj q (by decide));⟨ak h.1,h.2⟩),kp f4,kp f5,?_,fun q=>(let h:=f7 (aj q (by decide));⟨⟨ak h.1.1,ak h.1.2⟩,h.2⟩),fun q=>(let h:=f8 (aj q (by decide));⟨⟨ak h.1.1,ak h.1.2⟩,h.2⟩),fun q=>(let h:=f9 (aj q (by decide));⟨ak h.1,h.2⟩)⟩;exact fun _=>⟨ak D5.down,by first|rfl|(simp;done)⟩
 ·have d3:=aO 3 (by kernel_rfl);have d6:=aO 6 (by kernel_rfl);obtain⟨g2,rfl⟩:=f3 d3;obtain⟨g5,rfl⟩:=f6 d6;have n7:=getD_both fD;have R:=gw.2.1 n7;have hm:=HMN.down;have me:=HM1.down;have k1:=K1.down.1;have k2:=K1.down.2;refine Qx rfl _ _ 167 167 rfl 200 3 Tryz.underlying167 N5 g (m*3) (n-m) (n-m) ⟨g,0,none⟩ m n (by simp[Act.eval,oa]) (by simp[Act.eval,oa]) (an (dm m n)) 200 R (an ((dm m n).take (3*k))) (by rw[Hq.down];simp[an,lS];omega) (fun j v hj=>?_) (by simp[an,lS];omega) (gL _) ?_
  ·rw[Addr.add_lit,Nat.zero_add];have lI:j<(an (dm m n)).length:=by obtain⟨q,_⟩:=List.getElem?_eq_some_iff.1 hj;simp[an,lS] at q ⊢;omega
   rw[R.cell j lI,<-hj,<-zU,List.getElem?_take];have:j<3*k:=by obtain⟨q,_⟩:=List.getElem?_eq_some_iff.1 hj;simp[an,lS] at q;omega
   rw[if_pos this,List.getElem?_eq_getElem lI]
  have E:(an (dm m n)).take (m*3)++(an ((dm m n).take (3*k))++(an (dm m n)).drop (m*3+(an ((dm m n).take (3*k))).length))=an (dm (m+k) n):=by
   have l1:(an ((dm m n).take (3*k))).length=3*k:=by simp[an,lS];omega
   rw[l1,zU,Hk,<-xI,<-xI,Nat.mul_comm m 3,VG (by omega) (by omega)]
  rw[E,Hq.down];have R2:=EZ (us:=an (dm (m+k) n)) R;have G2:=GV (us:=(an (dm (m+k) n)).toArray) gw.1 HB.down;refine HK.down _ _ ⟨_,_,_,_,_,_,_,_,_,_,rfl,⟨G2,fun q=>(by rw[fi (by rw[iB];decide)] at q;cases q),gw.2.2.imp ak id⟩,kp f0,kp f1,kp f2,fun _=>⟨ak g2,rfl⟩,kp f4,kp f5,fun _=>⟨ak g5,rfl⟩,?_,fun q=>(let h:=f8 (aj q (by decide));⟨⟨ak h.1.1,ak h.1.2⟩,h.2⟩),fun q=>(let h:=f9 (aj q (by decide));⟨ak h.1,h.2⟩)⟩;exact fun _=>⟨⟨ak d3,ak d6⟩,rfl,R2⟩
 ·have d0:=aO 0 (by kernel_rfl);have d7:=aO 7 (by kernel_rfl);obtain rfl:=f0 d0;obtain⟨Yd,rfl,r7⟩:=f7 d7;have X7:=PLift.up Yd;have R7:=PLift.up r7;have D:=PLift.up (And.intro d0 d7);have k0:m+k<=1000:=by have:=HN.down;have:=K1.down;omega
  have GW:=PLift.up gw;clear Yd r7 d7 gw;clear d0;simp only[oa];go_simp;have gg:=gfl w;refine HK.down _ _ ⟨_,_,_,_,_,_,_,_,_,_,rfl,⟨GW.down.1,fun q=>GW.down.2.1 (by rw[getD_set_ne false (by decide)] at q;exact q),GW.down.2.2.imp ak id⟩,kp f0,kp f1,kp f2,fun q=>(let h:=f3 (aj q (by decide));⟨ak h.1,h.2⟩),kp f4,kp f5,fun q=>(let h:=f6 (aj q (by decide));⟨ak h.1,h.2⟩),fun _=>⟨⟨ak X7.down.1,ak X7.down.2⟩,rfl,R7.down⟩,?_,fun q=>(let h:=f9 (aj q (by decide));⟨ak h.1,h.2⟩)⟩;exact fun _=>⟨⟨ak D.down.1,ak D.down.2⟩,by rw[show IntKind.i64.wrap ((m:Int)+k)=((m+k:Nat):Int) from(by rw[IntKind.wrap_i64];omega)]⟩
 have d8:=aO 8 (by kernel_rfl);obtain⟨XJ,rfl⟩:=f8 d8;have D:=PLift.up d8;have Ye:=PLift.up XJ;have GW:=PLift.up gw;clear d8 XJ gw;simp only[oa];go_simp;have gg:=gfl w;refine HK.down _ _ ⟨_,_,_,_,_,_,_,_,_,_,rfl,⟨GW.down.1,fun q=>GW.down.2.1 (by rw[getD_set_ne false (by decide)] at q;exact q),.inl (fi (by rw[iB];decide))⟩,kp f0,kp f1,kp f2,fun q=>(let h:=f3 (aj q (by decide));⟨ak h.1,h.2⟩),kp f4,kp f5,fun q=>(let h:=f6 (aj q (by decide));⟨ak h.1,h.2⟩),fun q=>(let h:=f7 (aj q (by decide));⟨⟨ak h.1.1,ak h.1.2⟩,h.2⟩),fun _=>⟨⟨ak Ye.down.1,ak Ye.down.2⟩,rfl⟩,?_⟩;exact fun _=>⟨ak D.down,rfl⟩
theorem Qz(B n:Nat)(w:World)(hr:Row w B 200 (an [0, -1, -1]))(hn:n<=16):
  Calls Tryz.prog 165 #[.slice (some ⟨B,0,none⟩) 1 1,.int .i64 n] w (fun e w'=>∃g,e= .returned (.slice (some ⟨g,0,none⟩) n n)/\Row w' g 200 (an (dm n n))/\w.heap.size<=g/\Gr w w'):=by
 have HR:=aa hr;obtain⟨j0,hj,kN,ka,lg⟩:=info_parts TH;have jV:=run_make (P:=Tryz.prog) w 167 200 j0 (.agg #[.int .i64 0,.int .i64 0,.int .i64 0]) Tryz.underlying167 hj kN .i64 .i64 n n (by omega) (Int.le_refl _) (by rw[lg];omega) (by omega);clear hr;go_enter Tryz.func165,Tryz.ntmps165;go_wp2_with fail;have e1:(1*n/18446744073709551616:Nat)=0:=by omega
 have e2:(1*n%18446744073709551616:Nat)=n:=by omega
 refine(Tryz.bits_Mul 1 n (by omega) (by omega) _).mono ?_;rw[e1,e2];rintro e w' ⟨rfl,hw'⟩;rw[hw'];clear hw' w';rw[show(Value.agg #[.int .i64 0,.int .i64 0,.int .i64 0]).cells= #[.int .i64 0,.int .i64 0,.int .i64 0] from by simp[Value.cells,go_sem]] at jV;simp only[Int.toNat_natCast,ka] at jV;have n0:¬((n:Int)<0):=by omega
 obtain⟨W1,hW1⟩:∃W1:World,Hid (W1=w.alloc (.cells (madeCells #[.int .i64 0,.int .i64 0,.int .i64 0] (n*3)) 200)):=⟨_,aa rfl⟩;have R1:Hid (Row W1 w.heap.size 200 (an (dm 0 n))):=aa (by
  rw[hW1.out,Wq];have:=Row.new w (madeCells #[.int .i64 0,.int .i64 0,.int .i64 0] (n*3)) 200;have e:(madeCells #[Value.int .i64 0,.int .i64 0,.int .i64 0] (n*3)).toList=an (List.replicate (3*n) 0):=by
   apply List.ext_getElem
   ·simp[madeCells,an];omega
   intro i h1 h2;have h3:i%3=0∨i%3=1∨i%3=2:=by omega
   rcases h3 with h3|h3|h3<;>simp[madeCells,an,h3]
  rw[e] at this;exact this)
 have G1:Hid (Gr w W1):=aa (by rw[hW1.out];exact(gfl _).alloc _);obtain⟨g,hg⟩:∃g,w.heap.size=g:=⟨_,rfl⟩;have HB:Hid (w.heap.size<=g):=aa (by omega);rw[<-hW1.out] at jV;clear hW1;rw[hg] at R1 jV;obtain⟨m0,jx⟩:∃m0,Nat.min 1 n=m0:=⟨_,rfl⟩;have hmin:Nat.min 1 n=if 1<=n then 1 else n:=rfl
 have M0:Hid (m0<=n/\(n=0∨1<=m0)/\m0<=1):=aa (by split at hmin<;>omega);have E0:Hid ((an (dm 0 n)).take 0++an ([0, -1, -1].take (3*m0))++(an (dm 0 n)).drop (0+(an ([0, -1, -1].take (3*m0))).length)=an (dm m0 n)):=aa (by
  split at hmin
  ·obtain rfl:m0=1:=by omega
   rw[List.take_zero,List.nil_append,<-UJ (by omega),xI,Hk];rfl
  obtain rfl:m0=0:=by omega
  simp[an])
 clear hmin;have L0:Hid ((an ([0, -1, -1].take (3*m0))).length=m0*3):=aa (by simp[an];have:=M0.out;omega);have hR1:=R1.out;have Ah:=Hr (P:=Tryz.prog) W1 167 167 3 200 3 g 0 n n ⟨B,0,none⟩ 1 1 (an (dm 0 n)).toArray 200 (an ([0, -1, -1].take (3*m0))) Tryz.underlying167 N5 hR1 (by rw[jx];exact L0.out) (fun j v hj=>by
  have lI:j<(an ([0, -1, -1].take (3*m0))).length:=(List.getElem?_eq_some_iff.1 hj).1;have hj3:j<(an [0, -1, -1]).length:=by rw[L0.out] at lI;have:=M0.out;simp[an];omega
  have:=(HR.out.gr G1.out).cell j hj3;rw[Addr.add_lit,Nat.zero_add,this,<-hj,<-zU,List.getElem?_take,if_pos (by rw[L0.out] at lI;omega),List.getElem?_eq_getElem hj3]) (by rw[L0.out];simp[an,lS];have:=M0.out;omega) (gL _)
 rw[List.toList_toArray,E0.out,jx] at Ah;obtain⟨W2,hW2⟩:∃W2:World,Hid (W2=W1.setRow g (an (dm m0 n)).toArray):=⟨_,aa rfl⟩;rw[<-hW2.out] at Ah;have R2:Hid (Row W2 g 200 (an (dm m0 n))):=aa (by rw[hW2.out];exact EZ R1.out);have G2:Hid (Gr w W2):=aa (by rw[hW2.out];exact GV G1.out HB.out);clear hW2 hR1 E0 L0 R1 G1 HR jx hg;go_wp2_with fail;go_loopw [8] (fun i wr=>∃m:Nat,m<=n/\(n=0∨1<=m)/\i= .int .i64 m/\Row wr g 200 (an (dm m n))/\Gr w wr) (fun i _=>n-(intOf i).toNat);case atStart=>exact⟨m0,M0.out.1,M0.out.2.1,rfl,R2.out,G2.out⟩
 case round=>
  clear R2 G2 M0;obtain⟨m,hm,me,rfl,hr,hg⟩:=hrel;have HR:=aa hr;have HG:=aa hg;clear hr hg;by_cases aA:m<n
  ·go_upto_region 9 with fail;obtain⟨k,hk⟩:∃k,Nat.min m (n-m)=k:=⟨_,rfl⟩;have K1:k<=m/\k<=n-m/\(k=m∨k=n-m):=by have q:Nat.min m (n-m)=if m<=n-m then m else n-m:=rfl;split at q<;>omega
   refine qarb (W0:=w) HR.out HG.out HB.out (by omega) aA hn hk rfl ?_;intro t8 oZ pE mK pW ry Ae Az zZ zA wx tX e8 hrx;subst e8;have HRX:=aa hrx;have HGX:=aa tX;clear hrx tX;simp only[oa];go_wp2_with fail;go_roundw;case rel=>exact⟨m+k,by omega,by omega,rfl,HRX.out,HGX.out⟩
   case measure=>simp[intOf];omega
  obtain rfl:m=n:=by omega
  go_wp2_with fail;go_ret;exact⟨g,rfl,HR.out,HB.out,HG.out⟩
theorem Sm(v:Int)(suf:List Int):∀(pre:List Int),suf.Pairwise (·<= ·)->lvF (pre++suf) v pre.length suf.length=if suf.countP (·<v)<suf.length then(pre.length:Int)+(suf.countP (·<v):Nat) else -1:=by
 induction suf with
 |nil=>intro pre _;simp[lvF]
 |cons x suf ih=>
  intro pre hp;have e:(pre++x::suf).getD pre.length 0=x:=by simp
  simp only[List.length_cons,lvF,e];rw[List.pairwise_cons] at hp;by_cases h:v<=x
  ·have c0:(x::suf).countP (·<v)=0:=by
    rw[List.countP_eq_zero];intro a ha;rcases List.mem_cons.1 ha with rfl|ha
    ·simp;omega
    have:=hp.1 a ha;simp;omega
   rw[if_pos h,c0,if_pos (by omega)];simp
  have c1:(x::suf).countP (·<v)=suf.countP (·<v)+1:=by rw[List.countP_cons_of_pos (by simp;omega)]
  have q:=ih (pre++ [x]) hp.2;simp only[List.append_assoc,List.cons_append,List.nil_append,List.length_append,List.length_cons,List.length_nil] at q;rw[if_neg h,q,c1];by_cases g:suf.countP (·<v)<suf.length
  ·rw[if_pos g,if_pos (by omega)];push_cast;omega
  rw[if_neg g,if_neg (by omega)]
theorem Hx{xs:List Int}(h:xs.Pairwise (·<= ·))(v:Int):lvI xs v=if xs.countP (·<v)<xs.length then((xs.countP (·<v):Nat):Int) else -1:=by have:=Sm v xs [] h;simpa [lvI] using this
theorem zx{l:List Sup}(hok:gz l){i:Nat}(hi:i<l.length):l[i].levels.Pairwise (·<= ·):=by rw[List.pairwise_iff_getElem];intro a b ha hb vE;exact xz hok hi b hb a (by omega)
theorem Ou(l:List Sup)(d:List Drw)(ao a1:Option Addr)(cap c1:Nat)(w:World)(h:ag 5 bG w ao l)(hf:Fit l.length)(h1:ag 4 cX w a1 d)(f1:Fit d.length):
  Calls Tryz.prog 122 #[.slice ao l.length cap,.slice a1 d.length c1] w (aN w (.int .i64 (beg l d))):=by
 have H:=aa h;have H1:=aa h1;have HF:=aa hf;have F1:=aa f1;clear h h1 hf f1;go_enter Tryz.func122,Tryz.ntmps122;go_wp2_with fail;refine(tI l ao cap w H.out HF.out).mono ?_;rintro e w1 ⟨rfl,bD⟩;have G1:=aa bD;clear bD;by_cases c0:chk l=0
 ·have C0:=aa c0;rw[c0];clear c0;go_wp2_with fail;refine(qd l d ao a1 cap c1 w1 (H.out.gr bG.mono G1.out) HF.out (H1.out.gr cX.mono G1.out) F1.out).mono ?_;rintro e w2 ⟨rfl,bY⟩;have G2:=aa (G1.out.trans bY);clear bY;by_cases d0:b7 l d
  ·have B:Hid (beg l d=0):=aa (by unfold beg;rw[if_pos C0.out,if_pos d0]);rw[dtx d0];clear d0;go_wp2_with fail;go_ret;exact⟨bO B.out.symm,G2.out⟩
  have B:Hid (beg l d=1):=aa (by unfold beg;rw[if_pos C0.out,if_neg d0]);rw[dfx d0];clear d0;go_wp2_with fail;go_ret;exact⟨bO B.out.symm,G2.out⟩
 have B:Hid (beg l d=chk l):=aa (by unfold beg;rw[if_neg c0]);go_wp2_with fail;go_ret;exact⟨bO B.out.symm,G1.out⟩
def lvN(xs:List Int)(v:Int):Nat:=xs.countP (·<v)
theorem OB(s:Sup)(v:Int)(al:Option Addr)(cl:Nat)(w:World)(h:ag 1 RI w al s.levels)(h1:1<=s.levels.length)(hf:s.levels.length<=16)(hs:s.levels.Pairwise (·<= ·)):
  Calls Tryz.prog 167 #[.agg #[.int .i64 s.parent,.slice al s.levels.length cl,.int .i64 s.dropout,.int .i64 s.capacity,.bool s.always],.int .i64 v] w (fun e w'=>∃k:Nat,e= .returned (.tuple #[.int .i64 k,.bool (decide (k<s.levels.length))])/\k=lvN s.levels v/\Gr w w'):=by
 obtain⟨b,o,rfl,aH⟩:=h.all h1;have HA:=aa aH;obtain⟨W1,hW1⟩:∃W1:World,Hid (W1=w.alloc (.cells #[.int .i64 s.parent,.slice (some ⟨b,o,none⟩) s.levels.length cl,.int .i64 s.dropout,.int .i64 s.capacity,.bool s.always] 81)):=⟨_,aa rfl⟩;have G1:Hid (Gr w W1):=aa (by rw[hW1.out];exact(gfl _).alloc _);have R1:Hid (Row W1 w.heap.size 81 [.int .i64 s.parent,.slice (some ⟨b,o,none⟩) s.levels.length cl,.int .i64 s.dropout,.int .i64 s.capacity,.bool s.always]):=aa (by rw[hW1.out];exact Row.new _ _ _);have V:Hid (∀W,Gr W1 W->Calls Tryz.prog 187 #[.slice (some ⟨b,o,none⟩) s.levels.length cl,.int .i64 v] W fun e w'=>e= .returned (.tuple #[.int .i64 (lvN s.levels v:Nat),.bool (s.levels.contains v)])/\∃q,w'=W.drewN q):=aa (fun W hW=>by
  have q:=Tryz.slices_BinarySearch_int b o s.levels.length cl s.levels v W (Nat.le_refl _) (by omega) (fun j hj=>by have:=(aH j hj).1;rw[Nat.mul_one] at this;rw[show s.levels.getD j 0=s.levels[j] by simp[List.getD_eq_getElem?_getD,hj]];exact aB (G1.out.trans hW) this) (by rw[List.take_length];exact hs)
  rw[List.take_length] at q;exact q)
 clear h aH hs;go_enter Tryz.func167,Tryz.ntmps167;go_wp2_with fail;rw[<-hW1.out];clear hW1;refine(V.out W1 (gfl _)).mono ?_;rintro e w2 ⟨rfl,q,hq⟩;have G2:Hid (Gr W1 w2):=aa (by rw[hq];exact(gfl _).drewN _);clear hq;have R2:=R1.out.gr G2.out;have x1:=R2.cell 1 (by simp);have xh:=R2.has;simp only[List.getElem_cons_zero,List.getElem_cons_succ] at x1;clear R2 R1 V HA;obtain⟨k,hk⟩:∃k,Hid (lvN s.levels v=k):=⟨_,aa rfl⟩;rw[hk.out];go_wp2_with fail
 go_quiet (fail)
 go_wp2_with fail;refine bodyPost_ret (v:= .tuple #[.int .i64 k,.bool (decide ((k:Int)<s.levels.length))]) (by simp[results,Tryz.results167,go_sem]) rfl ?_;exact⟨k,by simp,hk.out.symm,(G1.out.trans G2.out).drewN _⟩
end Go.Proofs.YtlmhkjdkcoiioaaGreatDoor
