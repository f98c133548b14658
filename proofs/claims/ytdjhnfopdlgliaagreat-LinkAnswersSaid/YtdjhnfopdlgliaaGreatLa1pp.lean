/- Lemmas and contracts for the proof of LinkAnswers (several texts in one, printed by wip/tools/pack.py): TeX TeY TfA LoA LoB VeB LqC LqD LqE TfB. -/
import Derived.Test.YtdjhnfopdlgliaaGreatLa1po
import Derived.Test.YtdjhnfopdlgliaaGreatLa1pb
import Derived.Test.YtdjhnfopdlgliaaGreatLa1pc
import Derived.Test.YtdjhnfopdlgliaaGreatLa1pi
import Derived.Test.YtdjhnfopdlgliaaGreatLa1pm
import Derived.Test.YtdjhnfopdlgliaaGreatLa1pn
import Derived.WalkMore
set_option maxRecDepth 100000
set_option maxHeartbeats 16000000
set_option linter.unusedVariables false
set_option linter.unusedSimpArgs false
namespace Go.Proofs.YtdjhnfopdlgliaaGreat
open Go.RowKit
open Classical
theorem cellsNew(ns:List Nat)(w:World)(arr:Array Value)(h:arr.toList=nums (ns.map (fun n:Nat=>(n:Int))))(hn:∀n∈ns,n<4294967296)(h0:0<ns.length)(hf:ns.length≤1000)(k N:Nat)(hk:k=ns.length)(hN:w.heap.size=N):
  Calls Tryz.prog 19 #[.slice (some ⟨N,0,none⟩) k k] (w.alloc (.cells arr 3)) fun e w'=>e= .returned (.string (bs (cellsS ns)))∧Gr w w':=by
 subst hk
 subst hN
 have R:=Row.new w arr 3
 rw[h] at R
 refine(growCells_any ns _ ns.length _ (ints_row R hn) hn h0 hf).mono ?_
 rintro e w' ⟨rfl,hg⟩
 exact⟨rfl,((Gr.refl _).alloc _).trans hg⟩
theorem intsNew(xs:List Int)(ns:List Nat)(ax:Option Addr)(cx:Nat)(w:World)(hx:SlOf 1 RI w ax xs)(fx:xs.length≤1000)(arr:Array Value)(h:arr.toList=nums (ns.map (fun n:Nat=>(n:Int))))(hn:∀n∈ns,n<4294967296)(hf:ns.length≤1000)(j k N:Nat)(hj:j=xs.length)(hk:k=ns.length)(hN:w.heap.size=N):
  Calls Tryz.prog 28 #[.slice ax j cx,.slice (some ⟨N,0,none⟩) k k] (w.alloc (.cells arr 3)) (Grows w (.bool (decide (xs=ns.map (fun n:Nat=>(n:Int)))))):=by
 subst hj
 subst hk
 subst hN
 have R:=Row.new w arr 3
 rw[h] at R
 have:=ints_any xs (ns.map (fun n:Nat=>(n:Int))) ax (some ⟨w.heap.size,0,none⟩) cx ns.length _ (hx.giI ((Gr.refl _).alloc _)) (ints_row R hn) (by unfold Fit;omega) (by unfold Fit;simp;omega)
 rw[List.length_map] at this
 exact this.mono fun e w' q=>⟨q.1,((Gr.refl _).alloc _).trans q.2⟩
theorem awake12_any(w:World):Calls Tryz.prog 10 #[] w (Grows w (.bool true)):=by
 go_enter Tryz.func10,Tryz.ntmps10
 go_wp2_with fail
 refine(cellsNew [1,5,2] w #[.int .i64 1,.int .i64 5,.int .i64 2] rfl (by simp) (by simp) (by simp) 3 _ rfl rfl).mono ?_
 rintro e w1 ⟨rfl,hg1⟩
 have G1:=Lib.hid hg1
 clear hg1
 go_wp2_with fail
 have R1:=Lib.hid (Row.new w1 #[.string (bs sC),.string (bs (cellsS [1,5,2]))] 89)
 refine(cellsNew [1] (w1.alloc (.cells #[.string (bs sC),.string (bs (cellsS [1,5,2]))] 89)) #[.int .i64 1] rfl (by simp) (by simp) (by simp) 1 _ rfl (by simp)).mono ?_
 rintro e w2 ⟨rfl,hg2⟩
 have G2:=Lib.hid ((G1.out.alloc _).trans hg2)
 have R12:=Lib.hid (R1.out.gr hg2)
 clear hg2 R1
 go_wp2_with fail
 refine(cellsNew [1] w2 #[.int .i64 1] rfl (by simp) (by simp) (by simp) 1 _ rfl rfl).mono ?_
 rintro e w3 ⟨rfl,hg3⟩
 have G3:=Lib.hid (G2.out.trans hg3)
 have R13:=Lib.hid (R12.out.gr hg3)
 clear hg3 R12
 go_wp2_with fail
 have R3:=Lib.hid (Row.new w3 #[.string (bs sCC),.string (bs (cellsS [1])),.string (bs phS),.string (bs (cellsS [1]))] 89)
 have R13':=Lib.hid (R13.out.alloc (.cells #[.string (bs sCC),.string (bs (cellsS [1])),.string (bs phS),.string (bs (cellsS [1]))] 89))
 refine(cellsNew [2] (w3.alloc (.cells #[.string (bs sCC),.string (bs (cellsS [1])),.string (bs phS),.string (bs (cellsS [1]))] 89)) #[.int .i64 2] rfl (by simp) (by simp) (by simp) 1 _ rfl (by simp)).mono ?_
 rintro e w4 ⟨rfl,hg4⟩
 have G4:=Lib.hid ((G3.out.alloc _).trans hg4)
 have R14:=Lib.hid (R13'.out.gr hg4)
 have R34:=Lib.hid (R3.out.gr hg4)
 clear hg4 R13' R3 R13
 obtain⟨B1,hB1⟩:∃N:Nat,Hid (w1.heap.size=N):=⟨_,Lib.hid rfl⟩
 obtain⟨B3,hB3⟩:∃N:Nat,Hid (w3.heap.size=N):=⟨_,Lib.hid rfl⟩
 rw[hB1.out] at R14 ⊢
 rw[hB3.out] at R34 ⊢
 go_wp2_with fail
 have R4:=Lib.hid (Row.new w4 #[.string (bs phS),.string (bs (cellsS [2]))] 89)
 obtain⟨W1,hW1⟩:∃W:World,Hid (W=w4.alloc (.cells #[.string (bs phS),.string (bs (cellsS [2]))] 89)):=⟨_,Lib.hid rfl⟩
 have z1:Hid (W1.heap.size=w4.heap.size+1):=Lib.hid (by rw[hW1.out];simp)
 obtain⟨B4,hB4⟩:∃N:Nat,Hid (w4.heap.size=N):=⟨_,Lib.hid rfl⟩
 have R5:=Lib.hid (Row.new W1 #[.int .i64 (-1),.string (bs []),.slice none 0 0,.int .i64 0,.string (bs [97]),.slice (some ⟨B1,0,none⟩) 1 1,.int .i64 0,.string (bs [98]),.slice (some ⟨B3,0,none⟩) 2 2,.int .i64 0,.string (bs [99]),.slice (some ⟨B4,0,none⟩) 1 1] 55)
 obtain⟨W2,hW2⟩:∃W:World,Hid (W=W1.alloc (.cells #[.int .i64 (-1),.string (bs []),.slice none 0 0,.int .i64 0,.string (bs [97]),.slice (some ⟨B1,0,none⟩) 1 1,.int .i64 0,.string (bs [98]),.slice (some ⟨B3,0,none⟩) 2 2,.int .i64 0,.string (bs [99]),.slice (some ⟨B4,0,none⟩) 1 1] 55)):=⟨_,Lib.hid rfl⟩
 have z2:Hid (W2.heap.size=w4.heap.size+1+1):=Lib.hid (by rw[hW2.out];simp[z1.out])
 obtain⟨B5,hB5⟩:∃N:Nat,Hid (w4.heap.size+1=N):=⟨_,Lib.hid rfl⟩
 have R6:=Lib.hid (Row.new W2 #[.slice (some ⟨B5,0,none⟩) 4 4] 31)
 obtain⟨W3,hW3⟩:∃W:World,Hid (W=W2.alloc (.cells #[.slice (some ⟨B5,0,none⟩) 4 4] 31)):=⟨_,Lib.hid rfl⟩
 obtain⟨B6,hB6⟩:∃N:Nat,Hid (w4.heap.size+1+1=N):=⟨_,Lib.hid rfl⟩
 have g1:Gr w4 W1:=by rw[hW1.out];exact(Gr.refl _).alloc _
 have g2:Gr W1 W2:=by rw[hW2.out];exact(Gr.refl _).alloc _
 have g3:Gr W2 W3:=by rw[hW3.out];exact(Gr.refl _).alloc _
 rw[←hW1.out,hB4.out] at R4
 rw[←hW2.out,z1.out,hB5.out] at R5
 rw[←hW3.out,z2.out,hB6.out] at R6
 have SLT:Hid (SlOf 3 RNod W3 (some ⟨B5,0,none⟩) exT):=Lib.hid (by
  refine nods_of_row (ts:= [⟨⟨-1,[],[]⟩,none,0⟩,⟨⟨0,[97],[⟨sC,cellsS [1,5,2]⟩]⟩,some ⟨B1,0,none⟩,1⟩,⟨⟨0,[98],[⟨sCC,cellsS [1]⟩,⟨phS,cellsS [1]⟩]⟩,some ⟨B3,0,none⟩,2⟩,⟨⟨0,[99],[⟨phS,cellsS [2]⟩]⟩,some ⟨B4,0,none⟩,1⟩]) (R5.out.gr g3) ?_
  intro t ht
  simp only[List.mem_cons,List.not_mem_nil,or_false] at ht
  rcases ht with rfl|rfl|rfl|rfl
  ·exact⟨by simp[Wide],by simp,by simp,by simp[Fit],SlOf.nil _ _ _ _⟩
  ·exact⟨by simp[Wide],by simp,by simp,by simp[Fit],prps_of_row (ps:= [⟨sC,cellsS [1,5,2]⟩]) (R14.out.gr (g1.trans (g2.trans g3))) (by simp only[List.mem_singleton];rintro p rfl;decide)⟩
  ·exact⟨by simp[Wide],by simp,by simp,by simp[Fit],prps_of_row (ps:= [⟨sCC,cellsS [1]⟩,⟨phS,cellsS [1]⟩]) (R34.out.gr (g1.trans (g2.trans g3))) (by simp only[List.mem_cons,List.not_mem_nil,or_false];rintro p (rfl|rfl)<;>decide)⟩
  ·exact⟨by simp[Wide],by simp,by simp,by simp[Fit],prps_of_row (ps:= [⟨phS,cellsS [2]⟩]) (R4.out.gr (g2.trans g3)) (by simp only[List.mem_singleton];rintro p rfl;decide)⟩)
 have G5:=Lib.hid (G4.out.trans (g1.trans (g2.trans g3)))
 rw[hB6.out,hB5.out,hB4.out]
 have hC:=Of_any exT (some ⟨B5,0,none⟩) 4 1 sC sCC W3 SLT.out exT_chk (by decide)
 rw[exT_of] at hC
 have HW3:=Lib.hid (show W3=((w4.alloc (.cells #[.string (bs phS),.string (bs (cellsS [2]))] 89)).alloc (.cells #[.int .i64 (-1),.string (bs []),.slice none 0 0,.int .i64 0,.string (bs [97]),.slice (some ⟨B1,0,none⟩) 1 1,.int .i64 0,.string (bs [98]),.slice (some ⟨B3,0,none⟩) 2 2,.int .i64 0,.string (bs [99]),.slice (some ⟨B4,0,none⟩) 1 1] 55)).alloc (.cells #[.slice (some ⟨B5,0,none⟩) 4 4] 31) by rw[hW3.out,hW2.out,hW1.out])
 have HC:Hid (Calls Tryz.prog 9 #[.agg #[.slice (some ⟨B5,0,none⟩) 4 4],.int .i64 1,.string (bs sC),.string (bs sCC)] (((w4.alloc (.cells #[.string (bs phS),.string (bs (cellsS [2]))] 89)).alloc (.cells #[.int .i64 (-1),.string (bs []),.slice none 0 0,.int .i64 0,.string (bs [97]),.slice (some ⟨B1,0,none⟩) 1 1,.int .i64 0,.string (bs [98]),.slice (some ⟨B3,0,none⟩) 2 2,.int .i64 0,.string (bs [99]),.slice (some ⟨B4,0,none⟩) 1 1] 55)).alloc (.cells #[.slice (some ⟨B5,0,none⟩) 4 4] 31)) (GivesLks W3 (.ok [⟨1,2,sC,0,[5]⟩,⟨1,3,sC,1,[]⟩]))):=Lib.hid (by rw[←HW3.out];exact hC)
 clear hC HW3 g1 g2 g3
 refine HC.out.mono ?_
 rintro e w5 ⟨v,lt,rfl,h1,h2,h3,hg5⟩
 obtain⟨va,vc,rfl⟩:=owns_slice h2
 obtain⟨t0,t1,rfl⟩:∃t0 t1,lt= [t0,t1]:=by
  have hl:lt.length=2:=by have:=congrArg List.length h1;simpa [lks] using this
  match lt,hl with
  | [t0,t1],_=>exact⟨t0,t1,rfl⟩
 have e0:t0.l=⟨1,2,sC,0,[5]⟩:=by simp[lks] at h1;exact h1.1
 have e1:t1.l=⟨1,3,sC,1,[]⟩:=by simp[lks] at h1;exact h1.2
 have hr0:=h3 t0 (by simp)
 obtain⟨gB,hgB,d0,d1,d2,d3,d4⟩:=lnk_at h2 (k:=0) (by simp)
 obtain⟨gB',hgB',f0,f1,f2,f3,f4⟩:=lnk_at h2 (k:=1) (by simp)
 subst hgB
 cases hgB'
 simp only[List.getElem_cons_zero,List.getElem_cons_succ,e0,e1] at d1 d4 f1 hr0
 have G6:=Lib.hid (G5.out.trans hg5)
 have b6:w5.cell? ⟨B6,0,none⟩=some (.slice (some ⟨B5,0,none⟩) 4 4):=(R6.out.gr hg5).cell 0 (by simp)
 have SL5:=Lib.hid (SLT.out.gr RNod.mono hg5)
 obtain⟨a0,c0,ea,_,hs0⟩:=ints_at hr0.1 hr0.2.1
 have DD:=Lib.hid (And.intro d1 (And.intro d4 f1))
 have HS0:=Lib.hid hs0
 have EA:=Lib.hid ea
 clear h1 h2 h3 hg5 e0 e1 hr0 d0 d1 d2 d3 d4 f0 f1 f2 f3 f4 hs0 ea
 go_wp2_with fail
 have hO:=order_any exT (some ⟨B5,0,none⟩) 4 sC sCC w5 SL5.out exT_chk
 rw[exT_order] at hO
 refine hO.mono ?_
 rintro e w6 ⟨vo,rfl,ho,ho2,hg6⟩
 obtain⟨a6,c6,rfl,_,hs6⟩:=ints_at ho ho2
 have S6:=Lib.hid hs6
 have G7:=Lib.hid (G6.out.trans hg6)
 have d1:=cell_gr hg6 DD.out.1
 have d4:=cell_gr hg6 DD.out.2.1
 rw[EA.out] at d4
 have f1:=cell_gr hg6 DD.out.2.2
 have D6:=Lib.hid (And.intro d1 (And.intro d4 f1))
 have HS6:=Lib.hid (HS0.out.giI hg6)
 clear hO ho ho2 hg6 hs6
 go_wp2_with fail
 refine(intsNew [5] [5] a0 c0 w6 HS6.out (by simp) #[.int .i64 5] rfl (by simp) (by simp) 1 1 _ rfl rfl rfl).mono ?_
 rintro e w7 ⟨rfl,hg7⟩
 have G8:=Lib.hid (G7.out.trans hg7)
 have f7:=cell_gr hg7 D6.out.2.2
 have S7:=Lib.hid (S6.out.giI hg7)
 clear hg7
 have eT:(decide (([5]:List Int)= [5].map (fun n:Nat=>(n:Int))))=true:=by simp
 simp only[eT]
 go_wp2_with fail
 refine(intsNew [0,2,3,1] [0,2,3,1] a6 c6 w7 S7.out (by simp) #[.int .i64 0,.int .i64 2,.int .i64 3,.int .i64 1] rfl (by simp) (by simp) 4 4 _ rfl rfl rfl).mono ?_
 rintro e w8 ⟨rfl,hg8⟩
 have G9:=Lib.hid (G8.out.trans hg8)
 clear hg8
 have eU:(decide (([0,2,3,1]:List Int)= [0,2,3,1].map (fun n:Nat=>(n:Int))))=true:=by simp
 simp only[eU]
 go_wp2_with fail
 go_ret
 exact⟨rfl,G9.out⟩
end Go.Proofs.YtdjhnfopdlgliaaGreat
namespace Go.Proofs.YtdjhnfopdlgliaaGreat
open Go.RowKit
abbrev ci(l:List Nat):List Int:=l.map (fun m:Nat=>(m:Int))
def stepV(tt:Nat)(out:List Nat)(y:Int):Nat:=if y=(tt:Int) then 1 else if(tt:Int)<y∧0<out.getD y.toNat 0 then out.getD y.toNat 0+1 else 0
def relax(tt x:Nat)(s:List Nat×Bool)(y:Int):List Nat×Bool:=
 if 0<stepV tt s.1 y∧(s.1.getD x 0=0∨stepV tt s.1 y<s.1.getD x 0) then(s.1.set x (stepV tt s.1 y),true) else s
def passX(gs:List (List Int))(tt:Nat)(s:List Nat×Bool)(x:Nat):List Nat×Bool:=(gs.getD x []).foldl (relax tt x) s
def passD(gs:List (List Int))(tt:Nat)(s:List Nat×Bool):List Nat×Bool:=(List.range' tt (gs.length-tt)).foldl (passX gs tt) s
def distF(gs:List (List Int))(tt:Nat):Nat→List Nat→List Nat
 |0,out=>out
 |f+1,out=>if(passD gs tt (out,false)).2=true then distF gs tt f (passD gs tt (out,false)).1 else(passD gs tt (out,false)).1
def distT(gs:List (List Int))(tt:Nat):List Nat:=distF gs tt ((gs.length+1)*gs.length+1) (List.replicate gs.length 0)
/-! The measure. -/
def wt(N o:Nat):Nat:=if o=0 then N+1 else o
def ms(N:Nat):List Nat→Nat
 | []=>0
 |o::l=>wt N o+ms N l
def cnt:List Nat→Nat
 | []=>0
 |o::l=>(if o=0 then 0 else 1)+cnt l
theorem cnt_le:∀l:List Nat,cnt l≤l.length
 | []=>Nat.le_refl _
 |o::l=>by have:=cnt_le l;simp only[cnt,List.length_cons];split<;>omega
theorem ms_set(N:Nat):∀(l:List Nat) (x n:Nat) (h:x<l.length),ms N (l.set x n)+wt N l[x]=ms N l+wt N n
 |o::l,0,n,_=>by simp only[List.set_cons_zero,ms,List.getElem_cons_zero];omega
 |o::l,x+1,n,h=>by
  have:=ms_set N l x n (by simpa using h)
  simp only[List.set_cons_succ,ms,List.getElem_cons_succ];omega
theorem cnt_set:∀(l:List Nat) (x n:Nat) (h:x<l.length),cnt (l.set x n)+(if l[x]=0 then 0 else 1)=cnt l+(if n=0 then 0 else 1)
 |o::l,0,n,_=>by simp only[List.set_cons_zero,cnt,List.getElem_cons_zero];omega
 |o::l,x+1,n,h=>by
  have:=cnt_set l x n (by simpa using h)
  simp only[List.set_cons_succ,cnt,List.getElem_cons_succ];omega
theorem ms_rep(N:Nat):∀k,ms N (List.replicate k 0)=k*(N+1)
 |0=>by simp[ms]
 |k+1=>by rw[List.replicate_succ,ms,ms_rep N k,Nat.add_mul,Nat.one_mul];simp[wt];omega
theorem cnt_lt:∀(l:List Nat) (x:Nat) (h:x<l.length),l[x]=0→cnt l<l.length
 |o::l,0,_,e=>by have:=cnt_le l;simp only[List.getElem_cons_zero] at e;simp only[cnt,List.length_cons,e,if_true];omega
 |o::l,x+1,h,e=>by
  have:=cnt_lt l x (by simpa using h) (by simpa using e)
  simp only[cnt,List.length_cons];split<;>omega
theorem getD_lt{l:List Nat}{x:Nat}(h:x<l.length):l.getD x 0=l[x]:=by rw[List.getD_eq_getElem?_getD,List.getElem?_eq_getElem h];rfl
theorem getD_set_self'{l:List Nat}{x n:Nat}(h:x<l.length):(l.set x n).getD x 0=n:=by rw[getD_lt (by rw[List.length_set];exact h),List.getElem_set_self]
theorem getD_set_other{l:List Nat}{x y n:Nat}(h:x≠y):(l.set x n).getD y 0=l.getD y 0:=by rw[List.getD_eq_getElem?_getD,List.getD_eq_getElem?_getD,List.getElem?_set_ne h]
structure DOk(gs:List (List Int))(tt:Nat)(out:List Nat):Prop where
 len:out.length=gs.length
 le:∀x,out.getD x 0≤cnt out
 sup:∀x,1<out.getD x 0→∃y:Nat,(y:Int)∈gs.getD x []∧tt<y∧0<out.getD y 0∧out.getD y 0<out.getD x 0
theorem DOk.max{gs:List (List Int)}{tt:Nat}{out:List Nat}(h:DOk gs tt out)(x:Nat):out.getD x 0≤gs.length:=by
 have h1:=h.le x
 have h2:=cnt_le out
 have h3:=h.len
 omega
theorem DOk.start(gs:List (List Int))(tt:Nat):DOk gs tt (List.replicate gs.length 0):=by
 have e:∀x,(List.replicate gs.length 0).getD x 0=0:=fun x=>by
  rw[List.getD_eq_getElem?_getD,List.getElem?_replicate];split<;>rfl
 exact⟨by simp,fun x=>by rw[e];exact Nat.zero_le _,fun x h=>by rw[e] at h;omega⟩
theorem stepV_le{gs:List (List Int)}{tt:Nat}{out:List Nat}(h:DOk gs tt out)(y:Int):stepV tt out y≤cnt out+1:=by
 unfold stepV
 split
 ·omega
 ·split
  ·have:=h.le y.toNat;omega
  ·omega
theorem relax_ok{gs:List (List Int)}{tt x:Nat}{s:List Nat×Bool}{y:Int}(h:DOk gs tt s.1)(hy:y∈gs.getD x [])(hx:x<gs.length):
  DOk gs tt (relax tt x s y).1∧ms gs.length (relax tt x s y).1≤ms gs.length s.1∧((relax tt x s y).2=s.2∧(relax tt x s y).1=s.1∨(relax tt x s y).2=true∧ms gs.length (relax tt x s y).1<ms gs.length s.1):=by
 unfold relax
 split
 case isFalse=>exact⟨h,Nat.le_refl _,.inl ⟨rfl,rfl⟩⟩
 case isTrue hc=>
  obtain⟨hn,ho⟩:=hc
  have hle:=stepV_le h y
  obtain⟨n,hnn⟩:∃n,stepV tt s.1 y=n:=⟨_,rfl⟩
  rw[hnn] at hn ho hle ⊢
  have hxl:x<s.1.length:=by rw[h.len];exact hx
  have hm:=ms_set gs.length s.1 x n hxl
  have hcs:=cnt_set s.1 x n hxl
  have hlx:=h.le x
  rw[getD_lt hxl] at ho hlx
  rw[if_neg (show¬n=0 by omega)] at hcs
  have hlen:=h.len
  have hcl:=cnt_le s.1
  have hlt:ms gs.length (s.1.set x n)<ms gs.length s.1:=by
   unfold wt at hm
   rw[if_neg (show¬n=0 by omega)] at hm
   rcases ho with e|e
   ·have:=cnt_lt s.1 x hxl e
    rw[if_pos e] at hm
    omega
   ·rw[if_neg (show¬s.1[x]=0 by omega)] at hm
    omega
  refine⟨⟨by rw[List.length_set];exact h.len,fun z=>?_,fun z hz=>?_⟩,Nat.le_of_lt hlt,.inr ⟨rfl,hlt⟩⟩
  ·show(s.1.set x n).getD z 0≤cnt (s.1.set x n)
   by_cases e:x=z
   ·subst e
    rw[getD_set_self' hxl]
    rcases ho with e2|e2
    ·rw[if_pos e2] at hcs;omega
    ·rw[if_neg (show¬s.1[x]=0 by omega)] at hcs;omega
   ·rw[getD_set_other e]
    have:=h.le z
    rcases ho with e2|e2
    ·rw[if_pos e2] at hcs;omega
    ·rw[if_neg (show¬s.1[x]=0 by omega)] at hcs;omega
  ·dsimp only at hz ⊢
   by_cases e:x=z
   ·subst e
    rw[getD_set_self' hxl] at hz ⊢
    unfold stepV at hnn
    split at hnn
    ·omega
    ·split at hnn
     case isFalse=>omega
     case isTrue q=>
      obtain⟨q1,q2⟩:=q
      obtain⟨v,rfl⟩:∃v:Nat,y=v:=⟨y.toNat,by omega⟩
      rw[Int.toNat_natCast] at hnn q2
      have hvx:x≠v:=by
       rintro rfl
       rw[getD_lt hxl] at hnn q2
       omega
      exact⟨v,hy,by omega,by rw[getD_set_other hvx];exact q2,by rw[getD_set_other hvx];omega⟩
   ·rw[getD_set_other e] at hz ⊢
    obtain⟨v,h1,h2,h3,h4⟩:=h.sup z hz
    by_cases e2:x=v
    ·subst e2
     rw[getD_lt hxl] at h3 h4
     exact⟨x,h1,h2,by rw[getD_set_self' hxl];exact hn,by rw[getD_set_self' hxl];omega⟩
    ·exact⟨v,h1,h2,by rw[getD_set_other e2];exact h3,by rw[getD_set_other e2];exact h4⟩
structure DLe(gs:List (List Int))(tt:Nat)(s t:List Nat×Bool):Prop where
 ok:DOk gs tt t.1
 le:ms gs.length t.1≤ms gs.length s.1
 ch:t.2=s.2∧t.1=s.1∨t.2=true∧ms gs.length t.1<ms gs.length s.1
theorem DLe.refl{gs:List (List Int)}{tt:Nat}{s:List Nat×Bool}(h:DOk gs tt s.1):DLe gs tt s s:=⟨h,Nat.le_refl _,.inl ⟨rfl,rfl⟩⟩
theorem DLe.trans{gs:List (List Int)}{tt:Nat}{s t u:List Nat×Bool}(h:DLe gs tt s t)(k:DLe gs tt t u):DLe gs tt s u:=by
 refine⟨k.ok,Nat.le_trans k.le h.le,?_⟩
 rcases h.ch with⟨a1,a2⟩|⟨a1,a2⟩
 ·rcases k.ch with⟨b1,b2⟩|⟨b1,b2⟩
  ·exact .inl ⟨b1.trans a1,b2.trans a2⟩
  ·exact .inr ⟨b1,by rw[a2] at b2;exact b2⟩
 ·rcases k.ch with⟨b1,b2⟩|⟨b1,b2⟩
  ·exact .inr ⟨b1.trans a1,by rw[b2];exact a2⟩
  ·exact .inr ⟨b1,Nat.lt_trans b2 a2⟩
theorem fold_ok{gs:List (List Int)}{tt x:Nat}(hx:x<gs.length):∀(ys:List Int) (s:List Nat×Bool),(∀y∈ys,y∈gs.getD x [])→DOk gs tt s.1→DLe gs tt s (ys.foldl (relax tt x) s)
 | [],s,_,h=>DLe.refl h
 |y::ys,s,hy,h=>by
  have r:=relax_ok (s:=s) h (hy y (List.mem_cons_self ..)) hx
  exact DLe.trans ⟨r.1,r.2.1,r.2.2⟩ (fold_ok hx ys _ (fun z hz=>hy z (List.mem_cons_of_mem _ hz)) r.1)
theorem passX_ok{gs:List (List Int)}{tt x:Nat}(hx:x<gs.length)(s:List Nat×Bool)(h:DOk gs tt s.1):DLe gs tt s (passX gs tt s x):=fold_ok hx _ s (fun y hy=>hy) h
theorem passL_ok{gs:List (List Int)}{tt:Nat}:∀(l:List Nat) (s:List Nat×Bool),(∀x∈l,x<gs.length)→DOk gs tt s.1→DLe gs tt s (l.foldl (passX gs tt) s)
 | [],s,_,h=>DLe.refl h
 |x::l,s,hx,h=>by
  have r:=passX_ok (hx x (List.mem_cons_self ..)) s h
  exact r.trans (passL_ok l _ (fun z hz=>hx z (List.mem_cons_of_mem _ hz)) r.ok)
theorem passD_ok{gs:List (List Int)}{tt:Nat}(s:List Nat×Bool)(h:DOk gs tt s.1):DLe gs tt s (passD gs tt s):=
 passL_ok _ s (fun x hx=>by have:=List.mem_range'_1.1 hx;omega) h
/-! At the end nothing can be relaxed. -/
theorem relax_still{tt x:Nat}{out:List Nat}{y:Int}(h:(relax tt x (out,false) y).2=false):relax tt x (out,false) y=(out,false)∧¬(0<stepV tt out y∧(out.getD x 0=0∨stepV tt out y<out.getD x 0)):=by
 unfold relax at h ⊢
 split at h
 ·cases h
 ·rename_i q;exact⟨by rw[if_neg q],q⟩
theorem fold_still{gs:List (List Int)}{tt x:Nat}(hx:x<gs.length):∀(ys:List Int) (out:List Nat),(∀y∈ys,y∈gs.getD x [])→DOk gs tt out→(ys.foldl (relax tt x) (out,false)).2=false→ys.foldl (relax tt x) (out,false)=(out,false)∧∀y∈ys,¬(0<stepV tt out y∧(out.getD x 0=0∨stepV tt out y<out.getD x 0))
 | [],out,_,h,_=>⟨rfl,fun y hy=>by cases hy⟩
 |y::ys,out,hy,h,he=>by
  rw[List.foldl_cons] at he ⊢
  have r:=relax_ok (s:=(out,false)) (tt:=tt) h (hy y (List.mem_cons_self ..)) hx
  have k:=fold_ok hx ys (relax tt x (out,false) y) (fun z hz=>hy z (List.mem_cons_of_mem _ hz)) r.1
  have h1:(relax tt x (out,false) y).2=false:=by
   rcases k.ch with⟨a,_⟩|⟨a,_⟩
   ·rw[he] at a;exact a.symm
   ·rw[he] at a;cases a
  obtain⟨e,e2⟩:=relax_still h1
  rw[e] at he ⊢
  obtain⟨f1,f2⟩:=fold_still hx ys out (fun z hz=>hy z (List.mem_cons_of_mem _ hz)) h he
  exact⟨f1,fun z hz=>by rcases List.mem_cons.1 hz with rfl|q;exact e2;exact f2 z q⟩
theorem passL_still{gs:List (List Int)}{tt:Nat}:∀(l:List Nat) (out:List Nat),(∀x∈l,x<gs.length)→DOk gs tt out→(l.foldl (passX gs tt) (out,false)).2=false→l.foldl (passX gs tt) (out,false)=(out,false)∧∀x∈l,∀y∈gs.getD x [],¬(0<stepV tt out y∧(out.getD x 0=0∨stepV tt out y<out.getD x 0))
 | [],out,_,h,_=>⟨rfl,fun y hy=>by cases hy⟩
 |x::l,out,hx,h,he=>by
  rw[List.foldl_cons] at he ⊢
  have r:=passX_ok (tt:=tt) (hx x (List.mem_cons_self ..)) (out,false) h
  have k:=passL_ok l (passX gs tt (out,false) x) (fun z hz=>hx z (List.mem_cons_of_mem _ hz)) r.ok
  have h1:(passX gs tt (out,false) x).2=false:=by
   rcases k.ch with⟨a,_⟩|⟨a,_⟩
   ·rw[he] at a;exact a.symm
   ·rw[he] at a;cases a
  obtain⟨e,e2⟩:=fold_still (tt:=tt) (hx x (List.mem_cons_self ..)) (gs.getD x []) out (fun y hy=>hy) h h1
  have e':passX gs tt (out,false) x=(out,false):=e
  rw[e'] at he ⊢
  obtain⟨f1,f2⟩:=passL_still l out (fun z hz=>hx z (List.mem_cons_of_mem _ hz)) h he
  exact⟨f1,fun z hz=>by rcases List.mem_cons.1 hz with rfl|q;exact e2;exact f2 z q⟩
structure DFin(gs:List (List Int))(tt:Nat)(out:List Nat):Prop where
 ok:DOk gs tt out
 fix:∀x,tt≤x→x<gs.length→∀y∈gs.getD x [],¬(0<stepV tt out y∧(out.getD x 0=0∨stepV tt out y<out.getD x 0))
theorem passD_fin{gs:List (List Int)}{tt:Nat}{out:List Nat}(h:DOk gs tt out)(he:(passD gs tt (out,false)).2=false):passD gs tt (out,false)=(out,false)∧DFin gs tt out:=by
 obtain⟨a,b⟩:=passL_still (List.range' tt (gs.length-tt)) out (fun x hx=>by have:=List.mem_range'_1.1 hx;omega) h he
 exact⟨a,h,fun x h1 h2=>b x (List.mem_range'_1.2 ⟨h1,by omega⟩)⟩
theorem distF_fin{gs:List (List Int)}{tt:Nat}:∀(f:Nat) (out:List Nat),DOk gs tt out→ms gs.length out<f→DFin gs tt (distF gs tt f out)
 |0,out,_,hf=>by omega
 |f+1,out,h,hf=>by
  have k:=passD_ok (out,false) h
  rw[distF]
  split
  ·rename_i q
   refine distF_fin f _ k.ok ?_
   rcases k.ch with⟨a,_⟩|⟨_,b⟩
   ·rw[q] at a;cases a
   ·have:ms gs.length (passD gs tt (out,false)).1<ms gs.length out:=b
    omega
  ·rename_i q
   obtain⟨a,b⟩:=passD_fin h (by simpa using q)
   rw[a];exact b
theorem distT_fuel(gs:List (List Int))(tt:Nat):ms gs.length (List.replicate gs.length 0)<(gs.length+1)*gs.length+1:=by
 rw[ms_rep,Nat.mul_comm];omega
theorem distT_fin(gs:List (List Int))(tt:Nat):DFin gs tt (distT gs tt):=distF_fin _ _ (DOk.start gs tt) (distT_fuel gs tt)
theorem DFin.next{gs:List (List Int)}{tt:Nat}{d:List Nat}(h:DFin gs tt d){x:Nat}(h1:tt≤x)(h2:x<gs.length)(h3:1<d.getD x 0):∃y:Nat,(y:Int)∈gs.getD x []∧tt<y∧d.getD y 0+1=d.getD x 0:=by
 obtain⟨y,hy,hty,hp,hl⟩:=h.ok.sup x h3
 refine⟨y,hy,hty,?_⟩
 have:=h.fix x h1 h2 y hy
 have e:stepV tt d y=d.getD y 0+1:=by
  unfold stepV
  rw[if_neg (by omega),Int.toNat_natCast,if_pos ⟨by omega,hp⟩]
 rw[e] at this
 omega
/-! Circles. -/
def backB(d:List Nat)(first at':Nat)(y:Int):Bool:=decide ((first:Int)<y)&&decide (d.getD y.toNat 0+1=d.getD at' 0)
def circF(gs:List (List Int))(d:List Nat)(first:Nat):Nat→Nat→List Int→List Int
 |0,_,out=>out
 |f+1,at',out=>if 1<d.getD at' 0 then
   match (gs.getD at' []).find? (backB d first at') with
   |some y=>circF gs d first f y.toNat (out++ [y])
   |none=>out
  else out
def circT(gs:List (List Int))(first:Nat):List Int:=
 if(distT gs first).getD first 0=0 then [] else circF gs (distT gs first) first gs.length first [(first:Int)]
def betterB(best c:List Int):Bool:=decide (0<c.length)&&(decide (best.length=0)||decide (c.length<best.length))
def bestF(gs:List (List Int))(best:List Int)(i:Nat):List Int:=if betterB best (circT gs i)=true then circT gs i else best
def bestT(gs:List (List Int)):List Int:=(List.range gs.length).foldl (bestF gs) []
def circleT(ts:Tr)(pn cn:St):Except Int (List Int):=
 match graphT ts pn cn with
 | .error e=> .error e
 | .ok g=> .ok (bestT g)
theorem find_back{gs:List (List Int)}{tt:Nat}{d:List Nat}(h:DFin gs tt d){x:Nat}(h1:tt≤x)(h2:x<gs.length)(h3:1<d.getD x 0):∃y:Int,(gs.getD x []).find? (backB d tt x)=some y∧y∈gs.getD x []∧(tt:Int)<y∧d.getD y.toNat 0+1=d.getD x 0:=by
 obtain⟨y,hy,hty,hp⟩:=h.next h1 h2 h3
 cases hz:(gs.getD x []).find? (backB d tt x) with
 |none=>
  have:=List.find?_eq_none.1 hz y hy
  unfold backB at this
  rw[Int.toNat_natCast,decide_eq_true (show(tt:Int)<(y:Int) by omega),decide_eq_true hp] at this
  exact absurd rfl this
 |some z=>
  have q:=List.find?_some hz
  simp[backB] at q
  exact⟨z,rfl,List.mem_of_find?_eq_some hz,q.1,q.2⟩
end Go.Proofs.YtdjhnfopdlgliaaGreat
namespace Go.Proofs.YtdjhnfopdlgliaaGreat
open Go.RowKit
open Classical
def EdgB(gs:List (List Int)):Prop:=∀i,∀y∈gs.getD i [],∃j:Nat,y=j∧j<gs.length
def WayP(gs:List (List Int)):Nat→List Nat→Nat→Prop
 |a,[],t=>(t:Int)∈gs.getD a []
 |a,b::l,t=>(b:Int)∈gs.getD a []∧WayP gs b l t
def DOne(gs:List (List Int))(tt:Nat)(out:List Nat):Prop:=out.length=gs.length∧∀x,out.getD x 0=1→(tt:Int)∈gs.getD x []
theorem relax_one{gs:List (List Int)}{tt x:Nat}{s:List Nat×Bool}{y:Int}(h:DOne gs tt s.1)(hy:y∈gs.getD x [])(hx:x<gs.length):DOne gs tt (relax tt x s y).1:=by
 unfold relax
 split
 case isFalse=>exact h
 case isTrue hc=>
  refine⟨by rw[List.length_set];exact h.1,fun z hz=>?_⟩
  dsimp only at hz
  by_cases e:x=z
  ·subst e
   rw[getD_set_self' (by rw[h.1];exact hx)] at hz
   unfold stepV at hz
   split at hz
   case isTrue q=>rw[←q];exact hy
   case isFalse=>
    split at hz
    case isTrue q=>obtain⟨_,q⟩:=q;omega
    case isFalse=>omega
  ·rw[getD_set_other e] at hz
   exact h.2 z hz
theorem fold_one{gs:List (List Int)}{tt x:Nat}(hx:x<gs.length):∀(ys:List Int) (s:List Nat×Bool),(∀y∈ys,y∈gs.getD x [])→DOne gs tt s.1→DOne gs tt (ys.foldl (relax tt x) s).1
 | [],s,_,h=>h
 |y::ys,s,hy,h=>fold_one hx ys _ (fun z hz=>hy z (List.mem_cons_of_mem _ hz)) (relax_one h (hy y (List.mem_cons_self ..)) hx)
theorem passL_one{gs:List (List Int)}{tt:Nat}:∀(l:List Nat) (s:List Nat×Bool),(∀x∈l,x<gs.length)→DOne gs tt s.1→DOne gs tt (l.foldl (passX gs tt) s).1
 | [],s,_,h=>h
 |x::l,s,hx,h=>passL_one l _ (fun z hz=>hx z (List.mem_cons_of_mem _ hz)) (fold_one (hx x (List.mem_cons_self ..)) _ s (fun y hy=>hy) h)
theorem passD_one{gs:List (List Int)}{tt:Nat}{s:List Nat×Bool}(h:DOne gs tt s.1):DOne gs tt (passD gs tt s).1:=
 passL_one _ s (fun x hx=>by have:=List.mem_range'_1.1 hx;omega) h
theorem distF_one{gs:List (List Int)}{tt:Nat}:∀(f:Nat) (out:List Nat),DOne gs tt out→DOne gs tt (distF gs tt f out)
 |0,out,h=>h
 |f+1,out,h=>by
  have k:=passD_one (s:=(out,false)) h
  rw[distF]
  split
  ·exact distF_one f _ k
  ·exact k
theorem distT_one(gs:List (List Int))(tt:Nat):DOne gs tt (distT gs tt):=by
 refine distF_one _ _ ⟨by simp,fun x h=>?_⟩
 rw[List.getD_eq_getElem?_getD,List.getElem?_replicate] at h
 split at h<;>cases h
/-! The order. -/
def cntB:List Bool→Nat
 | []=>0
 |b::l=>(if b=true then 1 else 0)+cntB l
structure OInv(gs:List (List Int))(done:List Bool)(out:List Int):Prop where
 len:done.length=gs.length
 cnt:cntB done=out.length
 mem:∀i:Nat,i<gs.length→(done.getD i false=true↔(i:Int)∈out)
 nat:∀z∈out,∃j:Nat,z=j∧j<gs.length
 nd:out.Nodup
 aft:∀i (hi:i<out.length),∀y∈gs.getD out[i].toNat [],∃(j:Nat) (hj:j<out.length),j<i∧out[j]=y
structure OFin(gs:List (List Int))(out:List Int):Prop where
 len:out.length=gs.length
 all:∀i:Nat,i<gs.length→(i:Int)∈out
 nat:∀z∈out,∃j:Nat,z=j∧j<gs.length
 nd:out.Nodup
 aft:∀i (hi:i<out.length),∀y∈gs.getD out[i].toNat [],∃(j:Nat) (hj:j<out.length),j<i∧out[j]=y
/-! The graph of the links. -/
theorem mem_compactE{zs:List Int}{y:Int}:y∈Lib.compact zs↔y∈zs:=by
 unfold Lib.compact Lib.compactUpTo
 rw[List.mem_map]
 have hg:∀j (hj:j<zs.length),zs.toArray[j]! =zs[j]:=fun j hj=>by simp[getElem!_pos,hj]
 constructor
 ·rintro⟨j,hj,rfl⟩
  have hl:=List.mem_range.1 (List.mem_filter.1 hj).1
  rw[hg j hl]
  exact List.getElem_mem hl
 ·intro h
  obtain⟨j,hj,rfl⟩:=List.getElem_of_mem h
  have key:∀j,(hj:j<zs.length)→∃a,a∈List.filter (Lib.keeps zs.toArray) (List.range zs.length)∧zs.toArray[a]! =zs[j]:=by
   intro j
   induction j with
   |zero=>intro hj;exact⟨0,List.mem_filter.2 ⟨List.mem_range.2 hj,Lib.keeps_lt_one _ 0 (by omega)⟩,hg 0 hj⟩
   |succ j ih=>
    intro hj
    by_cases e:zs.toArray[j+1]! =zs.toArray[j+1-1]!
    ·obtain⟨a,h1,h2⟩:=ih (by omega)
     refine⟨a,h1,?_⟩
     rw[h2,←hg j (by omega),←hg (j+1) hj]
     exact e.symm
    ·exact⟨j+1,List.mem_filter.2 ⟨List.mem_range.2 hj,Lib.keeps_pos e⟩,hg _ hj⟩
  exact key j hj
theorem mem_normG{g:List Int}{y:Int}:y∈normG g↔y∈g:=by
 unfold normG srt
 rw[mem_compactE]
 exact(List.mergeSort_perm g _).mem_iff
theorem snoc_ind{α:Type}{P:List α→Prop}(h0:P [])(hs:∀l a,P l→P (l++ [a]))(l:List α):P l:=by
 have:∀m:List α,P m.reverse:=fun m=>by
  induction m with
  |nil=>exact h0
  |cons a m ih=>rw[List.reverse_cons];exact hs _ _ ih
 have q:=this l.reverse
 rwa [List.reverse_reverse] at q
theorem rawG_mem(n:Nat):∀(ls:List Lnk),(∀l∈ls,∃k:Nat,l.node=k∧k<n)→(rawG n ls).length=n∧∀(i:Nat) (y:Int),y∈(rawG n ls).getD i []↔∃l∈ls,l.node=i∧l.prov=y:=by
 intro ls
 refine snoc_ind (P:=fun ls:List Lnk=>(∀l∈ls,∃k:Nat,l.node=k∧k<n)→(rawG n ls).length=n∧∀(i:Nat) (y:Int),y∈(rawG n ls).getD i []↔∃l∈ls,l.node=i∧l.prov=y) ?_ ?_ ls
 ·intro _
  refine⟨by simp[rawG],fun i y=>?_⟩
  have:(rawG n []).getD i []= []:=by
   unfold rawG
   rw[List.foldl_nil,List.getD_eq_getElem?_getD,List.getElem?_replicate]
   split<;>rfl
  rw[this]
  simp
 ·intro ls l ih hN
  obtain⟨h1,h2⟩:=ih (fun x hx=>hN x (List.mem_append_left _ hx))
  obtain⟨k,hk,hkn⟩:=hN l (List.mem_append_right _ (List.mem_singleton.2 rfl))
  rw[rawG_snoc]
  refine⟨by rw[addE_len];exact h1,fun i y=>?_⟩
  unfold addE
  rw[hk,Int.toNat_natCast,List.getD_eq_getElem?_getD]
  by_cases e:k=i
  ·subst e
   rw[List.getElem?_set_self (by rw[h1];exact hkn),Option.getD_some,List.mem_append,List.mem_singleton,h2]
   constructor
   ·rintro(⟨x,hx,q⟩|q)
    ·exact⟨x,List.mem_append_left _ hx,q⟩
    ·exact⟨l,List.mem_append_right _ (List.mem_singleton.2 rfl),hk,q.symm⟩
   ·rintro⟨x,hx,q1,q2⟩
    rcases List.mem_append.1 hx with hx|hx
    ·exact .inl ⟨x,hx,q1,q2⟩
    ·rw[List.mem_singleton.1 hx] at q2;exact .inr q2.symm
  ·rw[List.getElem?_set_ne e,←List.getD_eq_getElem?_getD,h2]
   constructor
   ·rintro⟨x,hx,q⟩;exact⟨x,List.mem_append_left _ hx,q⟩
   ·rintro⟨x,hx,q1,q2⟩
    rcases List.mem_append.1 hx with hx|hx
    ·exact⟨x,hx,q1,q2⟩
    ·rw[List.mem_singleton.1 hx,hk] at q1;omega
theorem graph_mem{n:Nat}{ls:List Lnk}(h:∀l∈ls,∃k:Nat,l.node=k∧k<n):((rawG n ls).map normG).length=n∧∀(i:Nat) (y:Int),y∈((rawG n ls).map normG).getD i []↔∃l∈ls,l.node=i∧l.prov=y:=by
 obtain⟨h1,h2⟩:=rawG_mem n ls h
 refine⟨by rw[List.length_map];exact h1,fun i y=>?_⟩
 rw[←h2,List.getD_eq_getElem?_getD,List.getD_eq_getElem?_getD,List.getElem?_map]
 cases (rawG n ls)[i]? with
 |none=>simp
 |some g=>rw[Option.map_some,Option.getD_some,Option.getD_some,mem_normG]
/-! Where links lead. -/
theorem ofF_mem{ts:Tr}{node:Int}{pn cn:St}:∀(f:Nat) (l:List Int) (out ls:List Lnk),ofF ts node pn cn f l out= .ok ls→∀x∈ls,x∈out∨(x.node=node∧∃k:Nat,x.prov=k∧k<ts.length)
 |0,l,out,ls,h,x,hx=>by rw[ofF] at h;injection h with h;subst h;exact .inl hx
 |f+1,[],out,ls,h,x,hx=>by rw[ofF] at h;injection h with h;subst h;exact .inl hx
 |f+1,p::l,out,ls,h,x,hx=>by
  rw[ofF] at h
  cases hp:phan ts p with
  |none=>rw[hp] at h;cases h
  |some k=>
   rw[hp] at h
   dsimp only at h
   cases ha:argsN ts k cn with
   |none=>rw[ha] at h;cases h
   |some n=>
    rw[ha] at h
    dsimp only at h
    split at h
    ·cases h
    ·rcases ofF_mem f _ _ ls h x hx with q|q
     ·rcases List.mem_append.1 q with q|q
      ·exact .inl q
      ·rw[List.mem_singleton.1 q]
       exact .inr ⟨rfl,k,rfl,phan_lt hp⟩
     ·exact .inr q
theorem ofT_mem{ts:Tr}{n:Nat}{pn cn:St}{ls:List Lnk}(h:ofT ts n pn cn= .ok ls):∀x∈ls,x.node=n∧∃k:Nat,x.prov=k∧k<ts.length:=by
 intro x hx
 unfold ofT at h
 split at h
 ·injection h with h;subst h;cases hx
 ·split at h
  ·injection h with h;subst h;cases hx
  ·split at h
   ·rcases ofF_mem _ _ _ ls h x hx with q|q
    ·cases q
    ·exact q
   ·cases h
theorem allT_mem{ts:Tr}{pn cn:St}:∀(K:Nat) (ls:List Lnk),allT ts pn cn K= .ok ls→∀x∈ls,(∃n:Nat,x.node=n∧n<K)∧∃k:Nat,x.prov=k∧k<ts.length
 |0,ls,h,x,hx=>by rw[allT] at h;injection h with h;subst h;cases hx
 |K+1,ls,h,x,hx=>by
  rw[allT] at h
  cases ha:allT ts pn cn K with
  |error e=>rw[ha] at h;cases h
  |ok out=>
   rw[ha] at h
   dsimp only at h
   cases ho:ofT ts K pn cn with
   |error e=>rw[ho] at h;cases h
   |ok l2=>
    rw[ho] at h
    injection h with h
    subst h
    rcases List.mem_append.1 hx with q|q
    ·obtain⟨⟨n,e,hn⟩,q2⟩:=allT_mem K out ha x q
     exact⟨⟨n,e,by omega⟩,q2⟩
    ·obtain⟨e,q2⟩:=ofT_mem ho x q
     exact⟨⟨K,e,by omega⟩,q2⟩
/-! The links of one node. -/
/-! The value again. -/
theorem valP_mem{ps:List Prp}(hn:(ps.map Prp.name).Nodup){p:Prp}(hp:p∈ps):valP ps p.name=some p.val:=by
 induction ps with
 |nil=>cases hp
 |cons x ps ih=>
  rw[List.map_cons,List.nodup_cons] at hn
  unfold valP at ih ⊢
  rw[List.find?_cons]
  rcases List.mem_cons.1 hp with rfl|hp
  ·simp
  ·have hx:x.name≠p.name:=fun e=>hn.1 (e▸List.mem_map_of_mem hp)
   rw[show(x.name==p.name)=false by rw[beq_eq_false_iff_ne];exact hx]
   exact ih hn.2 hp
/-! Consumers. -/
def consL(p:Int)(ls:List Lnk):List Int:=Lib.compact ((ls.filter (fun x=>x.prov==p)).map Lnk.node)
/-! Names of properties. -/
theorem nameOk_hash(x:UInt8)(hx:letC (x.toNat:Int)=true∨(x.toNat:Int)=95)(t:St):nameOk (x::t)=(decide (t.length≤30)&&t.all namC):=by
 have h1:chr (x::t) 0=(x.toNat:Int):=rfl
 have h2:namC x=true:=by
  unfold namC wrdC
  rcases hx with h|h
  ·rw[h];rfl
  ·rw[h];simp
 have h3:(letC (chr (x::t) 0)||chr (x::t) 0==95)=true:=by
  rw[h1]
  rcases hx with h|h
  ·rw[h];rfl
  ·rw[h];simp
 unfold nameOk
 rw[h3,List.all_cons,h2,List.length_cons]
 rw[Bool.eq_iff_iff]
 simp
theorem prop_hashE{t:St}(h1:(35::t:St).length≤31)(h2:(64:UInt8)∉t):propOk (35::t)=(decide (t.length=0)||nameOk (97::t)):=by
 have e:undr (35::t)=95::t:=rfl
 unfold propOk
 rw[e,nameOk_hash 95 (.inr rfl),nameOk_hash 97 (.inl (by decide))]
 have e2:(95::t:St).contains 64=false:=by
  rw[←Bool.not_eq_true,List.contains_iff_mem]
  intro q
  rcases List.mem_cons.1 q with q|q
  ·exact absurd q (by decide)
  ·exact h2 q
 rw[e2]
 cases t with
 |nil=>rfl
 |cons a t=>simp
theorem prop_plainE{s:St}(h0:s.head?≠some 35)(h2:(64:UInt8)∉s):propOk s=nameOk s:=by
 have e:undr s=s:=by unfold undr;rw[if_neg h0]
 unfold propOk
 rw[e]
 have e2:s.contains 64=false:=by rw[←Bool.not_eq_true,List.contains_iff_mem];exact h2
 rw[e2]
 simp
theorem prop_at64{s:St}(h:(64:UInt8)∈s):propOk s=false:=by
 unfold propOk
 have:(undr s).contains 64=true:=by
  rw[List.contains_iff_mem]
  unfold undr
  split
  ·rename_i e
   cases s with
   |nil=>cases h
   |cons a l=>
    have ea:a=35:=by simpa using e
    subst ea
    rcases List.mem_cons.1 h with q|q
    ·exact absurd q (by decide)
    ·exact List.mem_cons_of_mem _ q
  ·exact h
 rw[this]
 simp
theorem prop_big{s:St}(h:s.length=0∨31<s.length):propOk s=false:=by
 unfold propOk nameOk
 have:=undr_len s
 rw[this]
 rcases h with h|h
 ·rw[h];rfl
 ·rw[show decide (s.length≤31)=false by simpa using h];simp
theorem refProp_any(s:St)(w:World):
  Calls Tryz.prog 120 #[.string (bs s)] w fun e w'=>e= .returned (.bool (propOk s))∧w=w':=by
 have e0:(bs s).size=s.length:=bs_size s
 obtain⟨v,hv⟩:∃v,propOk s=v:=⟨_,rfl⟩
 have HV:=Lib.hid hv
 rw[hv]
 clear hv
 go_enter Tryz.func120,Tryz.ntmps120
 by_cases hl1:s.length=0∨31<s.length
 ·have V:Hid (v=false):=Lib.hid (by rw[←HV.out];exact prop_big hl1)
  rcases hl1 with h|h
  ·have hb:decide (s.length<1)=true:=by rw[h];rfl
   have hb2:s.length<1:=by omega
   go_wp2_with fail
   go_ret
   exact⟨ret_bool (by rw[V.out]),rfl⟩
  ·have hb:decide (s.length<1)=false:=by rw[decide_eq_false_iff_not];omega
   have hb2:(31:Int)<s.length:=by omega
   go_wp2_with fail
   go_ret
   exact⟨ret_bool (by rw[V.out]),rfl⟩
 have l1:1≤s.length:=by omega
 have l2:s.length≤31:=by omega
 clear hl1
 go_wp2_with fail
 go_loop [3] (fun i=>∃k:Nat,k≤s.length∧i= .int .i64 k∧∀j (hj:j<k) (hjl:j<s.length),s[j]≠64) (fun i=>s.length-(intOf i).toNat)
 case atStart=>exact⟨0,Nat.zero_le _,rfl,fun j h=>by omega⟩
 case round=>
  obtain⟨k,hk,rfl,ha⟩:=hrel
  have HA:=Lib.hid ha
  clear ha
  by_cases hlt:k<s.length
  ·by_cases q0:s[k]=64
   ·have V:Hid (v=false):=Lib.hid (by rw[←HV.out];exact prop_at64 (q0▸List.getElem_mem hlt))
    have q2:((s[k].toNat:Int)==64)=true:=by rw[q0];rfl
    have q1:(s[k].toNat:Int)=64:=by rw[q0];rfl
    clear q0
    go_wp2_with fail
    go_ret
    exact⟨ret_bool (by rw[V.out]),rfl⟩
   ·have HQ:=Lib.hid q0
    have q1:¬(s[k].toNat:Int)=64:=fun e=>q0 (UInt8.toNat_inj.1 (by show s[k].toNat=64;omega))
    have q2:((s[k].toNat:Int)==64)=false:=by rw[beq_eq_false_iff_ne];exact q1
    clear q0
    go_wp2_with fail
    go_round
    case rel=>exact⟨k+1,by omega,by go_num,fun j hj hjl=>by
     by_cases e:j=k
     ·subst e;exact HQ.out
     ·exact HA.out j (by omega) hjl⟩
    case measure=>simp[intOf];omega
  ·obtain rfl:k=s.length:=by omega
   have N64:Hid ((64:UInt8)∉s):=Lib.hid (fun q=>by
    obtain⟨j,hj,e⟩:=List.getElem_of_mem q
    exact HA.out j hj hj e)
   by_cases hh:s[0]=35
   ·have q1:(s[0].toNat:Int)=35:=by rw[hh];rfl
    have q2:((s[0].toNat:Int)==35)=true:=by rw[q1];rfl
    have HS:Hid (s=35::s.tail):=Lib.hid (by
     cases s with
     |nil=>simp at l1
     |cons a l=>simp at hh;rw[hh];rfl)
    have VE:Hid (v=(decide (s.tail.length=0)||nameOk (97::s.tail))):=Lib.hid (by
     rw[←HV.out]
     have q:=HS.out
     conv=>lhs;rw[q]
     exact prop_hashE (by rw[←q];exact l2) (fun h=>N64.out (List.mem_of_mem_tail h)))
    clear q1 hh
    by_cases hl:s.length=1
    ·have V:Hid (v=true):=Lib.hid (by rw[VE.out,List.length_tail,hl];rfl)
     have q3:((s.length:Int)==1)=true:=by rw[hl];rfl
     have q4:(s.length:Int)=1:=by omega
     clear hl
     go_wp2_with fail
     go_ret
     exact⟨ret_bool (by rw[V.out]),rfl⟩
    ·have V:Hid (v=nameOk (97::s.tail)):=Lib.hid (by rw[VE.out,List.length_tail,show decide (s.length-1=0)=false by simp;omega];rfl)
     have q3:((s.length:Int)==1)=false:=by rw[beq_eq_false_iff_ne];omega
     have ht:List.take (s.length-1) s.tail=s.tail:=List.take_of_length_le (by simp)
     have ht2:(s.drop 1).take (s.length-1)=s.tail:=by rw[List.drop_one];exact ht
     go_wp2_with (go_at_call 119;refine(refName_any _ _).mono ?_;rintro e w' ⟨rfl,rfl⟩)
     go_ret
     exact⟨ret_bool (by rw[V.out]),rfl⟩
   ·have V:Hid (v=nameOk s):=Lib.hid (by
     rw[←HV.out]
     refine prop_plainE ?_ N64.out
     cases s with
     |nil=>simp at l1
     |cons a l=>simpa using hh)
    have q1:¬(s[0].toNat:Int)=35:=fun e=>hh (UInt8.toNat_inj.1 (by show s[0].toNat=35;omega))
    have q2:((s[0].toNat:Int)==35)=false:=by rw[beq_eq_false_iff_ne];exact q1
    clear hh
    go_wp2_with (go_at_call 119;refine(refName_any _ _).mono ?_;rintro e w' ⟨rfl,rfl⟩)
    go_ret
    exact⟨ret_bool (by rw[V.out]),rfl⟩
/-! limits. -/
def limB(ts:Tr):Bool:=decide (ts.length=0)||decide (120<ts.length)||ts.any bigN
theorem limits_any(ts:Tr)(a:Option Addr)(cap:Nat)(w:World)(h:SlOf 3 RNod w a ts)(hf:ts.length≤1000000):
  Calls Tryz.prog 93 #[.agg #[.slice a ts.length cap]] w (Grows w (.bool (limB ts))):=by
 have H:=Lib.hid h
 obtain⟨v,hv⟩:∃v,limB ts=v:=⟨_,rfl⟩
 have HV:=Lib.hid hv
 rw[hv]
 clear h hv
 go_enter Tryz.func93,Tryz.ntmps93
 by_cases l1:ts.length=0
 ·have V:Hid (v=true):=Lib.hid (by rw[←HV.out];unfold limB;rw[l1];rfl)
  have hb:decide (ts.length<1)=true:=by rw[l1];rfl
  have hb2:ts.length<1:=by omega
  go_wp2_with fail
  go_ret
  exact⟨ret_bool (by rw[V.out]),(Gr.refl _).alloc _⟩
 by_cases l2:120<ts.length
 ·have V:Hid (v=true):=Lib.hid (by rw[←HV.out];unfold limB;rw[show decide (120<ts.length)=true by simpa using l2];simp)
  have hb:decide (ts.length<1)=false:=by rw[decide_eq_false_iff_not];omega
  have hb2:(120:Int)<ts.length:=by omega
  go_wp2_with fail
  go_ret
  exact⟨ret_bool (by rw[V.out]),(Gr.refl _).alloc _⟩
 have VE:Hid (v=ts.any bigN):=Lib.hid (by rw[←HV.out];unfold limB;rw[show decide (120<ts.length)=false by simpa using l2,show decide (ts.length=0)=false by simpa using l1];rfl)
 have l3:1≤ts.length:=by omega
 have l4:ts.length≤120:=by omega
 clear l1 l2
 go_wp2_with fail
 go_loopw [20] (fun i wr=>∃k:Nat,k≤ts.length∧i= .int .i64 k∧(∀j (hj:j<k) (hjl:j<ts.length),bigN ts[j]=false)∧Gr w wr) (fun i _=>ts.length-(intOf i).toNat)
 case atStart=>exact⟨0,Nat.zero_le _,rfl,fun j h=>by omega,(Gr.refl _).alloc _⟩
 case round=>
  obtain⟨k,hk,rfl,ha,hg⟩:=hrel
  have HG:=Lib.hid hg
  have HA:=Lib.hid ha
  clear hg ha
  by_cases hlt:k<ts.length
  ·obtain⟨b,o,pa,pc,rfl,c0,c1,c2,hps,hpf,hw,hnl⟩:=nods_at (H.out.gr RNod.mono HG.out) k hlt
   obtain⟨n,hn⟩:∃n,ts[k]=n:=⟨_,rfl⟩
   have HN:=Lib.hid hn
   rw[hn] at c0 c1 c2 hps
   have HPS:=Lib.hid hps
   have hh:=has_of_cell c0
   have BT:Hid (bigN n=true→v=true):=Lib.hid (fun q=>by rw[VE.out,List.any_eq_true];exact⟨n,by rw[←hn];exact List.getElem_mem hlt,q⟩)
   clear hn hps hpf hw hnl
   by_cases n24:24<n.props.length
   ·have V:Hid (v=true):=Lib.hid (BT.out (by unfold bigN;rw[show decide (24<n.props.length)=true by simpa using n24];rfl))
    have nb:(24:Int)<n.props.length:=by omega
    go_wp2_with fail
    go_ret
    exact⟨ret_bool (by rw[V.out]),HG.out.alloc _⟩
   have n24':n.props.length≤24:=by omega
   clear n24
   go_wp2_with fail
   obtain⟨w5,hw5⟩:∃wo,wo=wr:=⟨_,rfl⟩
   rw[←hw5] at HG HPS
   go_loopw [31] (fun i wr=>∃m:Nat,m≤n.props.length∧i= .int .i64 m∧(∀j (hj:j<m) (hjl:j<n.props.length),n.props[j].val.length≤256)∧Gr w5 wr) (fun i _=>n.props.length-(intOf i).toNat)
   case atStart=>exact⟨0,Nat.zero_le _,rfl,fun j h=>by omega,by rw[hw5];exact(Gr.refl _).alloc _⟩
   case round=>
    clear hw5
    obtain⟨m,hm,rfl,hb,hg⟩:=hrel
    have HJ:=Lib.hid hg
    have HB:=Lib.hid hb
    clear hg hb
    by_cases hml:m<n.props.length
    ·obtain⟨b2,o2,rfl,d0,d1,l0,l1⟩:=prps_at (HPS.out.gr RPrp.mono HJ.out) m hml
     have hh2:=has_of_cell d0
     obtain⟨q,hq⟩:∃q,n.props[m]=q:=⟨_,rfl⟩
     have HQ:=Lib.hid hq
     rw[hq] at d0 d1
     clear hq l0 l1
     by_cases v256:256<q.val.length
     ·have V:Hid (v=true):=Lib.hid (BT.out (by
       unfold bigN
       rw[Bool.or_eq_true,List.any_eq_true]
       exact .inr ⟨q,by rw[←HQ.out];exact List.getElem_mem hml,by simpa using v256⟩))
      have nb:(256:Int)<q.val.length:=by omega
      go_wp2_with fail
      go_ret
      exact⟨ret_bool (by rw[V.out]),HG.out.trans (HJ.out.alloc _)⟩
     ·have nb:(q.val.length:Int)≤256:=by omega
      have NB:Hid (q.val.length≤256):=Lib.hid (by omega)
      clear v256
      go_wp2_with fail
      go_roundw
      case rel=>exact⟨m+1,by omega,by go_num,fun j hj hjl=>(by
       by_cases e:j=m
       ·subst e;rw[HQ.out];exact NB.out
       ·exact HB.out j (by omega) hjl),HJ.out.alloc _⟩
      case measure=>simp[intOf];omega
    ·have BF:Hid (bigN n=false):=Lib.hid (by
      unfold bigN
      rw[show decide (24<n.props.length)=false by simpa using n24',Bool.false_or,List.any_eq_false]
      intro x hx
      obtain⟨j,hj,rfl⟩:=List.getElem_of_mem hx
      have:=HB.out j (by omega) hj
      simpa using this)
     go_wp2_with fail
     go_roundw
     case rel=>exact⟨k+1,by omega,by go_num,fun j hj hjl=>(by
      by_cases e:j=k
      ·subst e;rw[HN.out];exact BF.out
      ·exact HA.out j (by omega) hjl),HG.out.trans HJ.out⟩
     case measure=>simp[intOf];omega
  ·have V:Hid (v=false):=Lib.hid (by
    rw[VE.out,List.any_eq_false]
    intro x hx
    obtain⟨j,hj,rfl⟩:=List.getElem_of_mem hx
    rw[HA.out j (by omega) hj]
    decide)
   go_wp2_with fail
   go_ret
   exact⟨ret_bool (by rw[V.out]),HG.out⟩
theorem rnumber_any(n:Nat)(w:World)(hn:n<4294967296):Calls Tryz.prog 40 #[.int .i64 n] w (Grows w (.string (bs (cell4 n)))):=by
 have hc:=run_convert_bytes_arg (P:=Tryz.prog) (w.alloc (.cells #[.int .u8 ((n:Int)/16777216),.int .u8 ((n:Int)/65536%256),.int .u8 ((n:Int)/256%256),.int .u8 ((n:Int)%256)] 5)) 112 5 Tryz.underlying112 Tryz.underlying5 w.heap.size 0 4 4 [(n:Int)/16777216,(n:Int)/65536%256,(n:Int)/256%256,(n:Int)%256] rfl
  (fun i hi=>by
   have:=(Row.new w #[.int .u8 ((n:Int)/16777216),.int .u8 ((n:Int)/65536%256),.int .u8 ((n:Int)/256%256),.int .u8 ((n:Int)%256)] 5).cell i (by simpa using hi)
   rw[Nat.zero_add,this]
   match i,hi with
   |0,_=>rfl
   |1,_=>rfl
   |2,_=>rfl
   |3,_=>rfl) 9 Tryz.underlying9
 rw[str4] at hc
 go_enter Tryz.func40,Tryz.ntmps40
 go_wp2_with fail
 go_ret
 exact⟨rfl,(Gr.refl _).alloc _⟩
theorem con_val{ps:List Prp}(hn:(ps.map Prp.name).Nodup)(c:St):ps.contains ⟨phS,c⟩=decide (valP ps phS=some c):=by
 rw[Bool.eq_iff_iff,List.contains_iff_mem,decide_eq_true_eq]
 constructor
 ·intro h
  exact valP_mem hn h
 ·intro h
  unfold valP at h
  cases e:ps.find? (fun p=>p.name==phS) with
  |none=>rw[e] at h;cases h
  |some p=>
   rw[e] at h
   have hv:p.val=c:=Option.some.inj h
   have hm:=List.mem_of_find?_eq_some e
   have hnm:p.name=phS:=by simpa using List.find?_some e
   have:p=⟨phS,c⟩:=by rw[←hnm,←hv]
   rw[←this]
   exact hm
theorem ci_set(l:List Nat)(x n:Nat):ci (l.set x n)=(ci l).set x (n:Int):=by simp[ci,List.map_set]
theorem ci_len(l:List Nat):(ci l).length=l.length:=by simp[ci]
theorem ci_rep(n:Nat):ci (List.replicate n 0)=List.replicate n 0:=by simp[ci]
theorem row_ci{w:World}{B:Nat}{l:List Nat}(h:Row w B 3 (nums (ci l)))(k:Nat)(hk:k<l.length):w.cell? ⟨B,k,none⟩=some (.int .i64 (l.getD k 0:Nat)):=by
 rw[h.iat k (by rw[ci_len];exact hk),getD_lt hk];simp[ci]
def GivesD(w:World)(l:List Nat)(e:Ending)(w':World):Prop:=
 ∃DB,e= .returned (.slice (some ⟨DB,0,none⟩) l.length l.length)∧Row w' DB 3 (nums (ci l))∧w.heap.size≤DB∧Gr w w'
theorem passL_snoc(gs:List (List Int))(tt m:Nat)(s:List Nat×Bool):(List.range' tt (m+1)).foldl (passX gs tt) s=passX gs tt ((List.range' tt m).foldl (passX gs tt) s) (tt+m):=by
 rw[List.range'_concat,List.foldl_append];simp
theorem fold_snoc{tt x:Nat}(ys:List Int)(k:Nat)(h:k<ys.length)(s:List Nat×Bool):(ys.take (k+1)).foldl (relax tt x) s=relax tt x ((ys.take k).foldl (relax tt x) s) ys[k]:=by
 rw[List.take_succ_eq_append_getElem h,List.foldl_append];rfl
theorem relax_nat(tt x j:Nat)(s:List Nat×Bool):relax tt x s (j:Int)=
  if 0<(if j=tt then 1 else if tt<j∧0<s.1.getD j 0 then s.1.getD j 0+1 else 0)∧(s.1.getD x 0=0∨(if j=tt then 1 else if tt<j∧0<s.1.getD j 0 then s.1.getD j 0+1 else 0)<s.1.getD x 0) then(s.1.set x (if j=tt then 1 else if tt<j∧0<s.1.getD j 0 then s.1.getD j 0+1 else 0),true) else s:=by
 have e:stepV tt s.1 (j:Int)=if j=tt then 1 else if tt<j∧0<s.1.getD j 0 then s.1.getD j 0+1 else 0:=by
  unfold stepV
  by_cases h:j=tt
  ·rw[if_pos h,if_pos (by rw[h])]
  ·rw[if_neg h,if_neg (by omega),Int.toNat_natCast]
   by_cases h2:tt<j∧0<s.1.getD j 0
   ·rw[if_pos h2,if_pos ⟨by omega,h2.2⟩]
   ·rw[if_neg h2,if_neg (fun q=>h2 ⟨by omega,q.2⟩)]
 unfold relax
 rw[e]
theorem dist_any(gs:List (List Int))(tt GB base:Nat)(vs:List Value)(w:World)(hga:GAt base w GB vs gs)(hin:InG gs.length gs)(hto:tt<gs.length)(hl:gs.length≤120)(hr:∀g∈gs,g.length≤7680):
  Calls Tryz.prog 106 #[.slice (some ⟨GB,0,none⟩) gs.length gs.length,.int .i64 tt] w (GivesD w (distT gs tt)):=by
 have GA:=Lib.hid hga
 have IG:=Lib.hid hin
 have RW:=Lib.hid hr
 have hto2:(tt:Int)<gs.length:=by omega
 have hmk:=run_make_row' (P:=Tryz.prog) 38 3 (.int .i64 0) 8 Tryz.underlying38 infoInt rfl .i64 .i64 gs.length (by omega) (by omega)
 clear hga hin hr
 go_enter Tryz.func106,Tryz.ntmps106
 go_wp2_with fail
 have RD:=Lib.hid (Row.new w (madeCells #[.int .i64 0] gs.length) 3)
 obtain⟨W2,hW2⟩:∃W:World,Hid (W=w.alloc (.cells (madeCells #[.int .i64 0] gs.length) 3)):=⟨_,Lib.hid rfl⟩
 rw[←hW2.out,made_one,show List.replicate gs.length (Value.int .i64 0)=nums (ci (List.replicate gs.length 0)) by rw[ci_rep];simp[nums]] at RD
 have G2:Hid (Gr w W2):=Lib.hid (by rw[hW2.out];exact(Gr.refl _).alloc _)
 obtain⟨DB,hDB⟩:∃N:Nat,Hid (w.heap.size=N):=⟨_,Lib.hid rfl⟩
 have sb:Hid (w.heap.size≤DB):=Lib.hid (by rw[hDB.out];exact Nat.le_refl _)
 rw[←hW2.out,hDB.out]
 rw[hDB.out] at RD
 clear hmk hW2
 go_loopg [6] ((gs.length+1)*gs.length+2) (fun g c wr=>∃(out:List Nat) (b:Bool),c= .bool b∧out.length=gs.length∧Row wr DB 3 (nums (ci out))∧Gr w wr∧(b=false→distT gs tt=out)∧(b=true→∃f,g=f+1∧DOk gs tt out∧ms gs.length out<f∧distT gs tt=distF gs tt f out))
 case atStart=>exact⟨List.replicate gs.length 0,true,rfl,by simp,RD.out,G2.out,fun q=>absurd q (by decide),fun _=>⟨(gs.length+1)*gs.length+1,rfl,DOk.start gs tt,distT_fuel gs tt,rfl⟩⟩
 case round=>
  clear RD G2
  obtain⟨out,b,rfl,hol,hrow,hg,hfa,htr⟩:=hrel
  have OL:=Lib.hid hol
  have RO:=Lib.hid hrow
  have HG:=Lib.hid hg
  clear hol hrow hg
  cases b with
  |false=>
   have FA:=Lib.hid (hfa rfl)
   clear hfa htr
   go_wp2_with fail
   go_ret
   exact⟨DB,by rw[FA.out,OL.out];rfl,by rw[FA.out];exact RO.out,sb.out,HG.out⟩
  |true=>
   obtain⟨f,hgf,hok,hms,hdf⟩:=htr rfl
   obtain⟨f',hf'⟩:∃f',f=f'+1:=⟨f-1,by omega⟩
   have GF:=Lib.hid hgf
   have OK:=Lib.hid hok
   have MS:=Lib.hid hms
   have DF:Hid (distT gs tt=if(passD gs tt (out,false)).2=true then distF gs tt f' (passD gs tt (out,false)).1 else(passD gs tt (out,false)).1):=Lib.hid (by rw[hdf,hf',distF])
   have FF:=Lib.hid hf'
   clear hgf hok hms hdf hf' hfa htr
   go_wp2_with fail
   go_loopw [6,7] (fun c x wr=>∃m:Nat,tt+m≤gs.length∧x= .int .i64 ((tt+m:Nat):Int)∧∃s:List Nat×Bool,Hid (s=(List.range' tt m).foldl (passX gs tt) (out,false))∧c= .bool s.2∧Row wr DB 3 (nums (ci s.1))∧Gr w wr) (fun _ x _=>gs.length-(intOf x).toNat)
   case atStart=>exact⟨0,by omega,rfl,(out,false),Lib.hid rfl,rfl,RO.out,HG.out⟩
   case round=>
    obtain⟨m,hm,rfl,s,HS,rfl,hrow,hg⟩:=hrel
    have RS:=Lib.hid hrow
    have HG:=Lib.hid hg
    clear hrow hg
    have SO:Hid (DLe gs tt (out,false) s):=Lib.hid (by rw[HS.out];exact passL_ok _ _ (fun x hx=>by have:=List.mem_range'_1.1 hx;omega) OK.out)
    obtain⟨x,hx⟩:∃x,tt+m=x:=⟨_,rfl⟩
    rw[hx] at hm ⊢
    have HX:=Lib.hid hx
    clear hx
    by_cases hlt:x<gs.length
    ·have hlt2:(x:Int)<gs.length:=by omega
     obtain⟨ra,rc,hvi,hro⟩:=GA.out.at hlt
     obtain⟨g,hgk⟩:∃g,g=gs[x]:=⟨_,rfl⟩
     have HGK:=Lib.hid hgk
     rw[←hgk] at hvi hro
     have hgd:gs.getD x []=g:=by rw[List.getD_eq_getElem?_getD,List.getElem?_eq_getElem hlt];exact hgk.symm
     have GD:=Lib.hid hgd
     have hinn:∀y∈g,∃j:Nat,y=j∧j<gs.length:=IG.out g (by rw[hgk];exact List.getElem_mem hlt)
     have IN:=Lib.hid hinn
     have hil:x<vs.length:=(List.getElem?_eq_some_iff.1 hvi).1
     have gk0:wr.cell? ⟨GB,x,none⟩=some (.slice ra g.length rc):=by rw[(GA.out.gr HG.out).row.cell x hil];exact congrArg some (List.getElem?_eq_some_iff.1 hvi).2
     have hh3:=has_of_cell gk0
     have hgw:∀z∈g,Wide z:=fun z hz=>by obtain⟨j,rfl,hj⟩:=hinn z hz;unfold Wide;omega
     obtain⟨ra',rc',e',_,hsl⟩:=ints_at hro hgw
     cases e'
     have hgl:g.length≤7680:=RW.out g (by rw[hgk];exact List.getElem_mem hlt)
     have SL:=Lib.hid hsl
     clear hgk hgd hinn hvi hro hgw hsl hil
     go_wp2_with fail
     clear gk0 hh3
     go_loopw [6,27] (fun c i wr=>∃k:Nat,k≤g.length∧i= .int .i64 k∧∃s':List Nat×Bool,Hid (s'=(g.take k).foldl (relax tt x) s)∧c= .bool s'.2∧Row wr DB 3 (nums (ci s'.1))∧Gr w wr) (fun _ i _=>g.length-(intOf i).toNat)
     case atStart=>exact⟨0,Nat.zero_le _,rfl,s,Lib.hid rfl,rfl,RS.out,HG.out⟩
     case round=>
      obtain⟨k,hk,rfl,s',HS',rfl,hrow,hg⟩:=hrel
      have RS':=Lib.hid hrow
      have HG':=Lib.hid hg
      clear hrow hg
      by_cases hkl:k<g.length
      ·have SO':Hid (DLe gs tt s s'):=Lib.hid (by rw[HS'.out];exact fold_ok hlt _ s (fun y hy=>by rw[GD.out];exact List.mem_of_mem_take hy) SO.out.ok)
       obtain⟨b,o,rfl,c0,_⟩:=(SL.out.giI HG'.out).one k hkl
       obtain⟨j,hjk,hjl⟩:=IN.out g[k] (List.getElem_mem hkl)
       have KEY:Hid ((g.take (k+1)).foldl (relax tt x) s=relax tt x s' (j:Int)):=Lib.hid (by rw[fold_snoc g k hkl,←HS'.out,hjk])
       rw[hjk] at c0
       clear hjk
       have hl':s'.1.length=gs.length:=SO'.out.ok.len
       have cj:=row_ci RS'.out j (by rw[hl'];exact hjl)
       have cx:=row_ci RS'.out x (by rw[hl'];exact hlt)
       have mj:=SO'.out.ok.max j
       have mx:=SO'.out.ok.max x
       rw[relax_nat] at KEY
       obtain⟨u,hu⟩:∃u,s'.1.getD j 0=u:=⟨_,rfl⟩
       obtain⟨v,hv⟩:∃v,s'.1.getD x 0=v:=⟨_,rfl⟩
       rw[hu] at KEY cj mj
       rw[hv] at KEY cx mx
       have hh1:=has_of_cell c0
       have hh2:=has_of_cell cj
       have fr:=RS'.out.free x
       have hjl2:(j:Int)<gs.length:=by omega
       clear hu hv hl'
       by_cases q1:j=tt
       ·subst q1
        rw[if_pos rfl] at KEY
        have e1:((j:Int)==(j:Int))=true:=by simp
        rcases Nat.lt_trichotomy v 1 with q2|q2|q2
        ·obtain rfl:v=0:=by omega
         have KE:Hid ((g.take (k+1)).foldl (relax j x) s=(s'.1.set x (1),true)):=Lib.hid (by rw[KEY.out];first|rfl|(rw[if_pos (by omega)]))
         clear KEY
         go_wp2_with fail
         exact⟨⟨k+1,by omega,by go_num,(s'.1.set x (1),true),Lib.hid KE.out.symm,rfl,by rw[ci_set];exact RS'.out.iset x _,HG'.out.setc sb.out⟩,by simp[intOf];omega⟩
        ·subst q2
         have KE:Hid ((g.take (k+1)).foldl (relax j x) s=s'):=Lib.hid (by rw[KEY.out];first|rfl|(rw[if_neg (by omega)]))
         clear KEY
         go_wp2_with fail
         exact⟨⟨k+1,by omega,by go_num,s',Lib.hid KE.out.symm,rfl,RS'.out,HG'.out⟩,by simp[intOf];omega⟩
        ·have e2:((v:Int)==0)=false:=by simp;omega
         have e3:(1:Int)<v:=by omega
         have KE:Hid ((g.take (k+1)).foldl (relax j x) s=(s'.1.set x (1),true)):=Lib.hid (by rw[KEY.out];first|rfl|(rw[if_pos (by omega)]))
         clear KEY
         go_wp2_with fail
         exact⟨⟨k+1,by omega,by go_num,(s'.1.set x (1),true),Lib.hid KE.out.symm,rfl,by rw[ci_set];exact RS'.out.iset x _,HG'.out.setc sb.out⟩,by simp[intOf];omega⟩
       ·rw[if_neg q1] at KEY
        have e1:((j:Int)==(tt:Int))=false:=by simp;omega
        by_cases q2:tt<j
        ·have e2:(tt:Int)<j:=by omega
         rcases Nat.eq_zero_or_pos u with q3|q3
         ·subst q3
          rw[show(if tt<j∧0<0 then 0+1 else 0)=0 from if_neg (by omega)] at KEY
          have KE:Hid ((g.take (k+1)).foldl (relax tt x) s=s'):=Lib.hid (by rw[KEY.out];first|rfl|(rw[if_neg (by omega)]))
          clear KEY
          go_wp2_with fail
          exact⟨⟨k+1,by omega,by go_num,s',Lib.hid KE.out.symm,rfl,RS'.out,HG'.out⟩,by simp[intOf];omega⟩
         ·have e3:(0:Int)<u:=by omega
          have e4:(0:Int)<(u:Int)+1:=by omega
          rw[show(if tt<j∧0<u then u+1 else 0)=u+1 from if_pos ⟨q2,q3⟩] at KEY
          rcases Nat.eq_zero_or_pos v with q4|q4
          ·subst q4
           have KE:Hid ((g.take (k+1)).foldl (relax tt x) s=(s'.1.set x (u+1),true)):=Lib.hid (by rw[KEY.out];first|rfl|(rw[if_pos (by omega)]))
           clear KEY
           go_wp2_with fail
           exact⟨⟨k+1,by omega,by go_num,(s'.1.set x (u+1),true),Lib.hid KE.out.symm,rfl,by rw[ci_set];exact RS'.out.iset x _,HG'.out.setc sb.out⟩,by simp[intOf];omega⟩
          ·have e5:((v:Int)==0)=false:=by simp;omega
           by_cases q5:u+1<v
           ·have e6:(u:Int)+1<v:=by omega
            have KE:Hid ((g.take (k+1)).foldl (relax tt x) s=(s'.1.set x (u+1),true)):=Lib.hid (by rw[KEY.out];first|rfl|(rw[if_pos (by omega)]))
            clear KEY
            go_wp2_with fail
            exact⟨⟨k+1,by omega,by go_num,(s'.1.set x (u+1),true),Lib.hid KE.out.symm,rfl,by rw[ci_set];exact RS'.out.iset x _,HG'.out.setc sb.out⟩,by simp[intOf];omega⟩
           ·have e6:¬(u:Int)+1<v:=by omega
            have KE:Hid ((g.take (k+1)).foldl (relax tt x) s=s'):=Lib.hid (by rw[KEY.out];first|rfl|(rw[if_neg (by omega)]))
            clear KEY
            go_wp2_with fail
            exact⟨⟨k+1,by omega,by go_num,s',Lib.hid KE.out.symm,rfl,RS'.out,HG'.out⟩,by simp[intOf];omega⟩
        ·have e2:¬(tt:Int)<j:=by omega
         rw[show(if tt<j∧0<u then u+1 else 0)=0 from if_neg (fun q=>q2 q.1)] at KEY
         have KE:Hid ((g.take (k+1)).foldl (relax tt x) s=s'):=Lib.hid (by rw[KEY.out];first|rfl|(rw[if_neg (by omega)]))
         clear KEY
         go_wp2_with fail
         exact⟨⟨k+1,by omega,by go_num,s',Lib.hid KE.out.symm,rfl,RS'.out,HG'.out⟩,by simp[intOf];omega⟩
      ·have hkk:k=g.length:=by omega
       subst hkk
       have KE:Hid ((List.range' tt (m+1)).foldl (passX gs tt) (out,false)=s'):=Lib.hid (by rw[passL_snoc,←HS.out,HX.out,HS'.out,List.take_length];unfold passX;rw[GD.out])
       go_wp2_with fail
       exact⟨⟨m+1,by have:=HX.out;omega,by congr 1;have:=HX.out;omega,s',Lib.hid KE.out.symm,rfl,RS'.out,HG'.out⟩,by simp[intOf];omega⟩
    ·have hxx:x=gs.length:=by omega
     have KE:Hid (passD gs tt (out,false)=s):=Lib.hid (by unfold passD;rw[HS.out];congr 2;have:=HX.out;omega)
     subst hxx
     go_wp2_with fail
     go_roundg f
     case measure=>have:=GF.out;omega
     case rel=>
      refine⟨s.1,s.2,rfl,SO.out.ok.len,RS.out,HG.out,fun q=>?_,fun q=>⟨f',FF.out,SO.out.ok,?_,?_⟩⟩
      ·rw[DF.out,KE.out,if_neg (by rw[q];decide)]
      ·rcases SO.out.ch with⟨a,_⟩|⟨_,b⟩
       ·rw[q] at a;cases a
       ·have b':ms gs.length s.1<ms gs.length out:=b
        have:=MS.out
        have:=FF.out
        omega
      ·rw[DF.out,KE.out,if_pos q]
end Go.Proofs.YtdjhnfopdlgliaaGreat
