/- Lemmas and contracts for the proof of PointAlone (several texts in one, printed by wip/tools/pack.py): Kf. -/
import Derived.Test.YtlmhkjdkcoiioaaGreatDoorAl8pd
import Derived.ArgAppend
import Derived.RangeFuncBox
import Derived.Test.YtlmhkjdkcoiioaaGreatDoorAl8pb
import Derived.Deep.CutBlock
set_option maxRecDepth 100000
set_option maxHeartbeats 16000000
set_option linter.unusedVariables false
set_option linter.unusedSimpArgs false
namespace Go.Proofs.YtlmhkjdkcoiioaaGreatDoor
open Go.RowKit
open Classical
theorem yz(w:World)(xs:List Int)(arr:Array Value)(ha:arr.toList=an xs)(T:TypeId)(base B n:Nat)(hn:xs.length=n)(hB:w.heap.size=B)(hb:base<=B)(hm:n<=1000000):
  (w.alloc (.cells arr T)).ownsRow base T 1 (.slice (some ⟨B,0,none⟩) n n) n (an xs):=by
 subst hB hn;have hl:arr.size=xs.length:=by rw[<-Array.length_toList,ha,dp]
 refine⟨by rw[dp];omega,.inr ⟨w.heap.size,xs.length,arr,rfl,hb,heap_alloc_new w _,Nat.le_refl _,by unfold maxLen;omega,by omega,?_⟩⟩;rw[ha,Nat.mul_one,List.take_of_length_le (by rw[dp];exact Nat.le_refl _)]
def upI(n:Nat):List Int:=(List.range n).map Int.ofNat
theorem UN(n:Nat):upI (n+1)=upI n++ [(n:Int)]:=by rw[upI,List.range_succ,List.map_append];rfl
theorem Nx{n:Nat}{x:Int}(h:x∈upI n):0<=x/\x<n:=by simp only[upI,List.mem_map,List.mem_range] at h;obtain⟨k,hk,rfl⟩:=h;simp only[Int.ofNat_eq_natCast];omega
theorem KG{xs:List Int}{n:Nat}(h:xs.Perm (upI n))(k:Nat):(xs.take k++((n:Int)::xs.drop k)).Perm (upI (n+1)):=by rw[UN];refine(List.perm_middle).trans ?_;rw[List.take_append_drop];exact(List.Perm.cons _ h).trans (List.perm_append_comm (l₁:= [(n:Int)]) (l₂:=upI n))
def Ow(b len:Nat)(w:World)(n:Nat)(e:Ending)(w':World):Prop:=
 ∃xs v,e= .returned v/\xs.Perm (upI n)/\w'.ownsRow w.heap.size 3 1 v n (an xs)/\Mv b len w w'
theorem Tb(w:World)(b len n:Nat)(ht:Tp w b len)(hn:n<=100):
  Calls Tryz.prog 155 #[.pointer (some ⟨b,0,none⟩),.int .i64 n] w (Ow b len w n):=by
 have TT:=aa ht;have hb:=ht.has;have HB:=aa hb;clear ht hb;obtain⟨i0,hi,dt,da,cN⟩:=info_parts eS;go_enter Tryz.func155,Tryz.ntmps155;go_wp2;go_loopw [5,6] (fun s i wr=>∃(m:Nat) (xs:List Int),m<=n/\i= .int .i64 m/\xs.Perm (upI m)/\wr.ownsRow w.heap.size 3 1 s m (an xs)/\Mv b len w wr) (fun _ i _=>n-(intOf i).toNat);case atStart=>exact⟨0,[],Nat.zero_le _,rfl,List.Perm.refl _,World.ownsRow_nil _ _ _ _,Mv.refl TT.out⟩
 case round=>
  obtain⟨m,xs,hm,rfl,hp,ho,wT⟩:=hrel;have jp:xs.length=m:=by have:=hp.length_eq;simpa [upI] using this
  have HP:=aa hp;have HO:=aa ho;have HM:=aa wT;have XL:=aa jp;obtain⟨a,c,rfl,hc,o1⟩:=fX ho;have WD:Hid (∀x∈xs,0<=x/\x<m):=aa fun x hx=>Nx (hp.mem_iff.1 hx);clear hp ho wT jp o1;obtain⟨wo,rfl⟩:∃wo:World,wo=wr:=⟨_,rfl⟩;by_cases aA:m<n
  ·go_wp2_with fail;refine(k7 wo b len _ (HM.out.tp TT.out) (by omega) (by omega)).mono ?_;rintro e w2 ⟨k,rfl,⟨k0,k1⟩,rC⟩;obtain⟨k,rfl⟩:=Int.eq_ofNat_of_zero_le k0;have hk:k<=m:=by omega
   have O2:=aa (rC.owns HO.out HB.out);have M2:=aa (HM.out.trans HB.out rC);clear rC k0 k1 HO HM;have y1:(k:Int)<=m:=by omega
   have y2:(m:Int)<=c:=by omega
   have y3:(k:Int)<=c:=by omega
   have S2:Hid (ag 1 RI w2 a xs):=aa (by
    obtain⟨a',c',e',_,o1⟩:=fX O2.out;cases e'
    exact o1.slI fun j hj=>by have:=WD.out _ (List.getElem_mem hj);unfold aK;omega)
   have F2:Hid ((a=none/\m=0/\c=0)∨∃g,a=some ⟨g,0,none⟩):=aa (by
    obtain⟨h0,⟨q,h1⟩|⟨g,cap,cur,q,_⟩⟩:=O2.out
    ·cases q;exact .inl ⟨rfl,rfl,rfl⟩
    cases q;exact .inr ⟨g,rfl⟩)
   go_upto_region 6 with(fail);go_cut [8] (fun v wx=>wx.ownsRow w2.heap.size 3 1 v (1+(m-k)) (an ((m:Int)::xs.drop k))/\Gr w2 wx);case first=>
    rcases F2.out with⟨rfl,rfl,rfl⟩|⟨g,rfl⟩
    ·obtain rfl:k=0:=by omega
     obtain rfl:xs= []:=List.eq_nil_of_length_eq_zero XL.out;go_wp2_with fail
     go_meet
     exact⟨yz w2 [0] _ rfl _ _ _ 1 rfl rfl (Nat.le_refl _) (by omega),(gfl _).alloc _⟩
    by_cases hkm:k<m
    ·have hkm':(k:Int)<m:=(by omega);have S6:Hid (yT (w2.alloc (.cells #[.int .i64 (m:Int)] 3)) (some ⟨g,k,none⟩) (m-k) 1 (an (xs.drop k))):=aa (by
      refine⟨by rw[dp,List.length_drop,XL.out];omega,fun _=>⟨_,rfl,fun j u hu=>?_⟩⟩;obtain⟨hj,hu⟩:=List.getElem?_eq_some_iff.1 hu;have qH:k+j<xs.length:=(by have:=hj;rw[dp,List.length_drop] at this;omega);obtain⟨b',o',e',q⟩:=(S2.out.giI ((gfl _).alloc _)).one (k+j) qH;cases e'
      rw[Nat.zero_add] at q;rw[Addr.add_lit,q.1,<-hu];simp[an])
     go_wp2_with (at_builtin;refine bM _ rfl _ _ 22 rfl w2.heap.size 3 i0 (.int .i64 0) 1 8 Tryz.underlying22 hi dt da cN rfl (by decide) (.slice (some ⟨w2.heap.size,0,none⟩) 1 1) 1 (an [(m:Int)]) rfl (yz w2 [(m:Int)] _ rfl _ _ _ 1 rfl rfl (Nat.le_refl _) (by omega)) (some ⟨g,k,none⟩) (m-k) (c-k) (an (xs.drop k)) rfl S6.out (gL _) (by unfold maxLen;omega) (by omega) (by simp) ?_;intro v1 w3 aV aE yX;have O3:=aa aV;have G3:Hid (Gr w2 w3):=aa (((gfl w2).alloc _).grown aE (fun k e=>by cases e;exact Nat.le_refl _));clear aV aE yX)
     go_meet
     exact⟨by have:=O3.out;simpa [an] using this,G3.out⟩
    obtain rfl:k=m:=by omega
    have DZ:Hid (xs.drop k= []):=aa (by rw[List.drop_eq_nil_iff];rw[XL.out];exact Nat.le_refl _);by_cases hmc:k<c
    ·have hmc':(k:Int)<c:=(by omega);go_wp2_with (at_builtin;refine bM _ rfl _ _ 22 rfl w2.heap.size 3 i0 (.int .i64 0) 1 8 Tryz.underlying22 hi dt da cN rfl (by decide) (.slice (some ⟨w2.heap.size,0,none⟩) 1 1) 1 (an [(k:Int)]) rfl (yz w2 [(k:Int)] _ rfl _ _ _ 1 rfl rfl (Nat.le_refl _) (by omega)) (some ⟨g,k,none⟩) 0 (c-k) (an []) rfl ⟨rfl,fun h=>absurd rfl h⟩ (gL _) (by unfold maxLen;omega) (by omega) (by simp) ?_;intro v1 w3 aV aE yX;have O3:=aa aV;have G3:Hid (Gr w2 w3):=aa (((gfl w2).alloc _).grown aE (fun k e=>by cases e;exact Nat.le_refl _));clear aV aE yX)
     go_meet
     exact⟨by have:=O3.out;rw[DZ.out];simpa [an] using this,G3.out⟩
    obtain rfl:c=k:=by omega
    go_wp2_with (at_builtin;refine bM _ rfl _ _ 22 rfl w2.heap.size 3 i0 (.int .i64 0) 1 8 Tryz.underlying22 hi dt da cN rfl (by decide) (.slice (some ⟨w2.heap.size,0,none⟩) 1 1) 1 (an [(c:Int)]) rfl (yz w2 [(c:Int)] _ rfl _ _ _ 1 rfl rfl (Nat.le_refl _) (by omega)) (some ⟨g,0,none⟩) 0 0 (an []) rfl ⟨rfl,fun h=>absurd rfl h⟩ (gL _) (by unfold maxLen;omega) (by omega) (by simp) ?_;intro v1 w3 aV aE yX;have O3:=aa aV;have G3:Hid (Gr w2 w3):=aa (((gfl w2).alloc _).grown aE (fun k e=>by cases e;exact Nat.le_refl _));clear aV aE yX)
    go_meet
    exact⟨by have:=O3.out;rw[DZ.out];simpa [an] using this,G3.out⟩
   obtain⟨ho3,cG⟩:=hcut;obtain⟨g1,c1,rfl,oC,_,lG⟩:=fM ho3 (by omega);have P7:Hid (∀bb,a=some bb->∀j u,(an (xs.take k))[j]?=some u->wc.cell? (bb.add j)=some u):=aa (by
    rintro bb rfl j u hu;obtain⟨hj,hu⟩:=List.getElem?_eq_some_iff.1 hu;have lI:j<k/\j<xs.length:=(by have:=hj;rw[dp,List.length_take] at this;omega);obtain⟨b',o',e',q⟩:=(S2.out.giI cG).one j lI.2;cases e'
    rw[Addr.add_lit,q.1,<-hu];simp[an])
   have Q7:Hid (∀j u,(an ((m:Int)::xs.drop k))[j]?=some u->wc.cell? ((⟨g1,0,none⟩:Addr).add j)=some u):=aa (by intro j u hu;obtain⟨hj,_⟩:=List.getElem?_eq_some_iff.1 hu;have lI:j<(1+(m-k))*1:=(by have:=hj;rw[dp,List.length_cons,List.length_drop,XL.out] at this;omega);rw[Addr.add_lit,Nat.zero_add,lG j lI,hu])
   have A7:Hid (a=none->k=0/\k=0):=aa fun q=>by
    rcases F2.out with⟨_,h,_⟩|⟨g,h⟩
    ·omega
    rw[q] at h;cases h
   rcases F2.out with⟨rfl,rfl,rfl⟩|⟨g,rfl⟩
   ·obtain rfl:k=0:=by omega
    go_wp2_with (at_builtin;refine wpList_append_grows _ rfl _ _ 22 rfl 3 i0 (.int .i64 0) 1 8 Tryz.underlying22 hi dt da cN rfl (by decide) none 0 0 (an (xs.take 0)) rfl A7.out (by rw[dp,List.length_take,XL.out]<;>omega) P7.out ⟨g1,0,none⟩ 1 c1 (an (((0:Nat):Int)::xs.drop 0)) rfl (by rw[dp,List.length_cons,List.length_drop,XL.out]<;>omega) Q7.out (gL _) (by omega) (by unfold maxLen;omega) (by omega) ?_;intro v2 w4 aV aE;have O4:=aa aV;have G4:=aa aE;clear aV aE);go_roundw;case rel=>
     refine⟨0+1,xs.take 0++(((0:Nat):Int)::xs.drop 0),by omega,by go_num,KG HP.out 0,?_,?_⟩
     ·have:=jS O4.out (base':=w.heap.size) (by have:=cG.size;have:=M2.out.size;omega);have e:0+(1+(0-0))=0+1:=(by omega);rw[e] at this;simpa [an] using this
     exact(M2.out.gr cG).gr ((gfl _).grown G4.out (fun k e=>by cases e))
    case measure=>simp[intOf];omega
   go_wp2_with (at_builtin;refine wpList_append_grows _ rfl _ _ 22 rfl 3 i0 (.int .i64 0) 1 8 Tryz.underlying22 hi dt da cN rfl (by decide) (some ⟨g,0,none⟩) k k (an (xs.take k)) rfl A7.out (by rw[dp,List.length_take,XL.out];omega) P7.out ⟨g1,0,none⟩ (1+(m-k)) c1 (an ((m:Int)::xs.drop k)) rfl (by rw[dp,List.length_cons,List.length_drop,XL.out];omega) Q7.out (gL _) (by omega) (by unfold maxLen;omega) (by omega) ?_;intro v2 w4 aV aE;have O4:=aa aV;have G4:=aa aE;clear aV aE);go_roundw;case rel=>
    refine⟨m+1,xs.take k++((m:Int)::xs.drop k),by omega,by go_num,KG HP.out k,?_,?_⟩
    ·have:=jS O4.out (base':=w.heap.size) (by have:=cG.size;have:=M2.out.size;omega);have e:k+(1+(m-k))=m+1:=(by omega);rw[e] at this;simpa [an] using this
    exact(M2.out.gr cG).gr ((gfl _).grown G4.out (fun k e=>by cases e))
   case measure=>simp[intOf];omega
  obtain rfl:m=n:=by omega
  go_wp2_with fail;go_ret;exact⟨xs,_,rfl,HP.out,HO.out,HM.out⟩
def lP(x:Int):Prop:=0<=x/\x<=1000000000
def Xi(base:Nat)(w:World)(B:Nat)(kd:Int)(ps cs:List Int)(lo hi:Int):Prop:=
 ∃ap cp ac cc,Row w B 130 [.int .i64 kd,.slice ap ps.length cp,.slice ac cs.length cc,.int .i64 lo,.int .i64 hi]/\bt base w 3 (an ps) ap/\ps.length<=cp/\bt base w 3 (an cs) ac/\cs.length<=cc
def OneL(ps cs:List Int):Prop:=ps.length<=3/\1<=cs.length/\cs.length<=4/\(∀x∈ps,lP x)/\(∀x∈cs,lP x)
def Uk(b len:Nat)(w:World)(e:Ending)(w':World):Prop:=
 ∃kd ps cs lo hi ap cp ac cc,e= .returned (.agg #[.int .i64 kd,.slice ap ps.length cp,.slice ac cs.length cc,.int .i64 lo,.int .i64 hi])/\OneL ps cs/\(1<=kd/\kd<=5)/\(0<=lo/\lo<=2000000000)/\(0<=hi/\hi<=2000000000)/\
  bt w.heap.size w' 3 (an ps) ap/\ps.length<=cp/\bt w.heap.size w' 3 (an cs) ac/\cs.length<=cc/\Mv b len w w'
theorem uI(w:World)(xs:List Int)(arr:Array Value)(ha:arr.toList=an xs)(T:TypeId)(base B:Nat)(hB:w.heap.size=B)(hb:base<=B):bt base (w.alloc (.cells arr T)) T (an xs) (some ⟨B,0,none⟩):=by subst hB;exact bt.row hb (by have:=Row.new w arr T;rw[ha] at this;exact this.s)
theorem bt.grownA{base:Nat}{w w1:World}{row:Option Nat}{T:Nat}{vs:List Value}{a:Option Addr}(h:bt base w T vs a)(hg:w.grownBy w1 row)(bS:∀B,a=some ⟨B,0,none⟩->some B≠row):bt base w1 T vs a:=by
 rcases h with h|⟨B,e,hB,h⟩
 ·exact .inl h
 exact .inr ⟨B,e,hB,h.grown hg (bS B e)⟩
theorem bt.oth2{base b B o:Nat}{w:World}{T:Nat}{vs:List Value}{v:Value}(h:bt base w T vs (some ⟨B,0,none⟩))(hb:b≠B):bt base (w.setCell ⟨b,o,none⟩ v) T vs (some ⟨B,0,none⟩):=by
 rcases h with h|⟨B',e,hB,h⟩
 ·exact .inl h
 cases e;exact .inr ⟨B,rfl,hB,h.oth hb⟩
theorem Sw{base:Nat}{w:World}{T:Nat}{xs:List Int}{a:Option Addr}(h:bt base w T (an xs) a)(k:Nat):bt base w T (an (xs.take k)) a:=by
 rcases h with h|⟨B,e,hB,r,h⟩
 ·left;have:xs= []:=by simpa [an] using h
  simp[this,an]
 refine .inr ⟨B,e,hB,an (xs.drop k)++r,?_⟩;have e2:an (xs.take k)++(an (xs.drop k)++r)=an xs++r:=by rw[<-List.append_assoc];simp[an,<-List.map_append]
 rw[e2];exact h
theorem Ix{w:World}{base base' e n c:Nat}{a:Option Addr}{xs:List Value}(h:w.ownsRow base e 1 (.slice a n c) n xs)(hb:base'<=base):bt base' w e xs a:=by
 obtain⟨a',c',e',_,o⟩:=fX h;cases e'
 exact o.low hb
theorem yL{base:Nat}{w:World}{B o:Nat}{us:List Value}{xs:List Int}{a:Option Addr}{v:Value}(h:Row w B 130 us)(k:bt base w 3 (an xs) a):bt base (w.setCell ⟨B,o,none⟩ v) 3 (an xs) a:=by
 rcases k with k|⟨C,e,hB,k⟩
 ·exact .inl k
 exact .inr ⟨C,e,hB,k.oth (h.s.apart k (by decide))⟩
theorem Qy(W W0:World)(b len:Nat)(h:Tp W b len)(eb:Nat)(arr:Array Value)(n:Nat)(xs:List Int)(S:Int->Prop)(he:eb=W0.heap.size)(hg:Gr (W0.alloc (.cells arr 3)) W)(hb:b<W0.heap.size)(ha:arr.toList=an xs)(hn:xs.length=n)(gc:1<=n)(hn2:n<=1000)(hS:∀x∈xs,S x):
  Calls Tryz.prog 35 #[.pointer (some ⟨b,0,none⟩),.slice (some ⟨eb,0,none⟩) n n] W (ve b len W S):=by
 subst he;refine Il W b len h W0.heap.size n S gc hn2 (by omega) (fun k hk=>?_);have q:=(Row.new W0 arr 3).gr hg;rw[ha] at q;exact⟨_,q.iat k (by omega),hS _ (List.getElem_mem _)⟩
theorem qx(w:World)(b len:Nat)(n:Int)(h:Tp w b len)(hn:1<=n)(gc:n<=1000):
  Calls Tryz.prog 43 #[.pointer (some ⟨b,0,none⟩),.int .i64 n] w (ve b len w (gv 0 (n-1))):=k7 w b len n h hn (by omega)
theorem V7(w:World)(b len:Nat)(k:Nat)(ht:Tp w b len)(hk:1<=k)(ky:k<=16):
  Calls Tryz.prog 108 #[.pointer (some ⟨b,0,none⟩),.int .i64 k] w (Uk b len w):=by
 have TT:=aa ht;have hb:=ht.has;have HB:=aa hb;clear ht hb;obtain⟨i0,hi,dt,da,cN⟩:=info_parts eS;go_enter Tryz.func108,Tryz.ntmps108;go_wp2_with fail;refine(dG (w.alloc (.cells #[.int .i64 0,.slice none 0 0,.slice none 0 0,.int .i64 0,.int .i64 0] 130)) b len (TT.out.gr ((gfl _).alloc _)) _ (by simp) _ 9 [1,2,2,3,3,4,4,5,5] (gv 1 5) rfl rfl (by omega) (by omega) (by simp[gv])).mono ?_;rintro e w1 ⟨kd,rfl,⟨kd1,kd2⟩,me⟩;have M1:=aa ((Mv.of_gr TT.out ((gfl _).alloc _)).trans HB.out me);have rr:=(Row.new w #[.int .i64 0,.slice none 0 0,.slice none 0 0,.int .i64 0,.int .i64 0] 130);have R4:=aa (me.row rr (by have:=HB.out;omega));clear me rr
 go_upto_block 0 with(fail)
 obtain⟨W2,hW2⟩:∃W2:World,Hid (W2=w1.alloc (.cells #[.int .i64 kd,.slice none 0 0,.slice none 0 0,.int .i64 0,.int .i64 0] 130)):=⟨_,aa rfl⟩;rw[<-hW2.out];obtain⟨B,hB⟩:∃B:Nat,Hid (w1.heap.size=B):=⟨_,aa rfl⟩;rw[hB.out];have R2:Hid (Row W2 B 130 [.int .i64 kd,.slice none 0 0,.slice none 0 0,.int .i64 0,.int .i64 0]):=aa (by rw[hW2.out,<-hB.out];exact Row.new w1 _ _);have M2:Hid (Mv b len w W2):=aa (by rw[hW2.out];exact M1.out.alloc _);have T2:=aa (M2.out.tp TT.out);have R5:Hid (Row W2 w.heap.size 130 [.int .i64 0,.slice none 0 0,.slice none 0 0,.int .i64 0,.int .i64 0]):=aa (by rw[hW2.out];exact R4.out.alloc _);have sz:Hid (b<B/\w.heap.size<B/\W2.heap.size=B+1):=aa (by rw[hW2.out,<-hB.out];have:=(M1.out.tp TT.out).has;exact⟨this,R4.out.has,by simp⟩);clear hW2 hB R4 M1;go_cut [] (fun wx=>∃ps cs,OneL ps cs/\Xi B wx B kd ps cs 0 0/\Row wx w.heap.size 130 [.int .i64 0,.slice none 0 0,.slice none 0 0,.int .i64 0,.int .i64 0]/\Mv b len w wx);case first=>
  rcases(show kd=1∨kd=2∨kd=3∨kd=4∨kd=5 by omega) with rfl|rfl|rfl|rfl|rfl
  ·go_wp2_with fail;refine(dG W2 b len T2.out _ (by simp) _ 4 [10,12,32,24000000] lP rfl rfl (by omega) (by omega) (by simp[lP])).mono ?_;rintro e w3 ⟨x,rfl,hx,hm⟩;have HX:=aa hx;have iB:B<=w3.heap.size:=by have:=hm.size;have:=sz.out;omega
   have M3:=aa (M2.out.trans HB.out hm);have R3:=aa (hm.row R2.out (by have:=sz.out;omega));have R6:=aa (hm.row R5.out (by have:=HB.out;omega));have z2:=R3.out.cell 2 (by simp);have zf:=R3.out.free 2;have zh:=R3.out.has;simp only[List.getElem_cons_zero,List.getElem_cons_succ] at z2;clear hx hm;go_wp2_with fail
   go_meet
   refine⟨[],[x],⟨by simp,by simp,by simp,by simp,by simpa using HX.out⟩,⟨none,0,some ⟨w3.heap.size,0,none⟩,1,?_,.inl rfl,Nat.le_refl _,?_,Nat.le_refl _⟩,?_,?_⟩
   ·exact(R3.out.set 2 _).alloc _
   ·exact uI _ [x] _ rfl _ B w3.heap.size (bQ _ _ _) iB
   ·exact(R6.out.oth (by have:=sz.out;omega)).alloc _
   exact(M3.out.setc (by have:=sz.out;omega)).alloc _
  ·go_wp2_with fail;refine(qx W2 b len k T2.out (by omega) (by omega)).mono ?_;rintro e w3 ⟨p,rfl,⟨p0,p1⟩,hm⟩;have iB:B+1<=w3.heap.size:=by have:=hm.size;have:=sz.out;omega
   have M3:=aa (M2.out.trans HB.out hm);have R3:=aa (hm.row R2.out (by have:=sz.out;omega));have R6:=aa (hm.row R5.out (by have:=HB.out;omega));have z1:=R3.out.cell 1 (by simp);have zf:=R3.out.free 1;have zh:=R3.out.has;simp only[List.getElem_cons_zero,List.getElem_cons_succ] at z1;clear hm;go_upto_region 9 with(fail);obtain⟨W4,hW4⟩:∃W4:World,Hid (W4=(w3.setCell ⟨B,1,none⟩ (.slice (some ⟨w3.heap.size,0,none⟩) 1 1)).alloc (.cells #[.int .i64 p] 3)):=⟨_,aa rfl⟩;rw[<-hW4.out];have P4:Hid (bt B W4 3 (an [p]) (some ⟨w3.heap.size,0,none⟩)):=aa (by rw[hW4.out];exact uI _ [p] _ rfl _ B w3.heap.size (bQ _ _ _) (by omega));have R4:Hid (Row W4 B 130 [.int .i64 2,.slice (some ⟨w3.heap.size,0,none⟩) 1 1,.slice none 0 0,.int .i64 0,.int .i64 0]):=aa (by rw[hW4.out];exact(R3.out.set 1 _).alloc _);have R7:Hid (Row W4 w.heap.size 130 [.int .i64 0,.slice none 0 0,.slice none 0 0,.int .i64 0,.int .i64 0]):=aa (by rw[hW4.out];exact(R6.out.oth (by have:=sz.out;omega)).alloc _);have M4:Hid (Mv b len w W4):=aa (by rw[hW4.out];exact(M3.out.setc (by have:=sz.out;omega)).alloc _);have sz4:Hid (w3.heap.size<W4.heap.size):=aa (by rw[hW4.out];simp[bQ]);have T4:=aa (M4.out.tp TT.out);obtain⟨pb,Ez⟩:∃pb:Nat,Hid (w3.heap.size=pb):=⟨_,aa rfl⟩;rw[Ez.out] at iB P4 R4 sz4;rw[Ez.out];clear hW4 M3 R3 R6 z1 zf zh Ez;go_wp2_with fail;refine(mZ W4 b len 1 4 T4.out (by omega) (by omega) (by omega)).mono ?_;rintro e w5 ⟨n,rfl,⟨n0,n1⟩,jn⟩;obtain⟨n,rfl⟩:=Int.eq_ofNat_of_zero_le (show 0<=n by omega);have P5:=aa (jn.own1 P4.out (by have:=sz.out;omega));have R8:=aa (jn.row R4.out (by have:=sz.out;omega));have R9:=aa (jn.row R7.out (by have:=HB.out;omega));have M5:=aa (M4.out.trans HB.out jn);have sz5:Hid (pb<w5.heap.size):=aa (Nat.lt_of_lt_of_le sz4.out jn.size);clear jn P4 R4 R7 M4 sz4 T4;go_wp2_with fail;go_loopw [6] (fun i wr=>∃(m:Nat) (cs:List Int) (a c:_),i= .int .i64 m/\cs.length+m<=4/\(1<=cs.length∨1<=m)/\(∀x∈cs,lP x)/\wr.ownsRow w5.heap.size 3 1 (.slice a cs.length c) cs.length (an cs)/\Row wr B 130 [.int .i64 2,.slice (some ⟨pb,0,none⟩) 1 1,.slice a cs.length c,.int .i64 0,.int .i64 0]/\bt B wr 3 (an [p]) (some ⟨pb,0,none⟩)/\Row wr w.heap.size 130 [.int .i64 0,.slice none 0 0,.slice none 0 0,.int .i64 0,.int .i64 0]/\Mv b len w wr/\w5.heap.size<=wr.heap.size) (fun i _=>(intOf i).toNat);case atStart=>exact⟨n,[],none,0,rfl,by simp;omega,.inr (by omega),by simp,World.ownsRow_nil _ _ _ _,R8.out,P5.out,R9.out,M5.out,Nat.le_refl _⟩
   case round=>
    clear P5 R8 R9 M5;obtain⟨m,cs,a,c,rfl,mI,tC,tn,ho,hr,hp,hq,hm,hz⟩:=hrel;have GE:=aa tC;have NR:=aa tn;have HO:=aa ho;have HR:=aa hr;have HP:=aa hp;have HQ:=aa hq;have HM:=aa hm;clear tC tn ho hr hp hq hm;obtain⟨wo,rfl⟩:∃wo:World,wo=wr:=⟨_,rfl⟩;by_cases jx:0<m
    ·have g0:(0:Int)<m:=(by omega);go_wp2_with fail;refine(dG wo b len (HM.out.tp TT.out) _ rfl _ 7 [1,2,3,4,5,8,64] lP rfl rfl (by omega) (by omega) (by simp[lP])).mono ?_;rintro e w6 ⟨x,rfl,hx,fS⟩;have HX:=aa hx;have bo:Hid (b<wo.heap.size):=aa (HM.out.tp TT.out).has;have O6:=aa (fS.owns HO.out (by have:=sz.out;have:=sz5.out;omega));have R6:=aa (fS.row HR.out (by have:=sz.out;omega));have P6:=aa (fS.own1 HP.out (by have:=sz.out;omega));have Q6:=aa (fS.row HQ.out (by have:=HB.out;omega));have M6:=aa (HM.out.trans HB.out fS);have hz6:w5.heap.size<=w6.heap.size:=Nat.le_trans hz fS.size;clear hx fS HO HR HP HQ HM;have z2:=R6.out.cell 2 (by simp);have zf:=R6.out.free 2;have zh:=R6.out.has;simp only[List.getElem_cons_zero,List.getElem_cons_succ] at z2;obtain⟨a',c',e',uS,o1⟩:=fX O6.out;cases e'
     have S6:Hid (ag 1 RI w6 a cs):=aa (o1.slI fun j hj=>by have:=NR.out _ (List.getElem_mem hj);unfold lP at this;unfold aK;omega);clear o1;go_wp2_with fail;refine(Lk cs a c x _ S6.out (by unfold Fit;omega)).mono ?_;rintro e w' ⟨rfl,rfl⟩;by_cases wK:x∈cs
     ·have hd:decide (x∈cs)=true:=(by simpa using wK);rw[hd];have AU:1<=cs.length:=List.length_pos_of_mem wK;clear wK hd;obtain⟨m',rfl⟩:∃m',m=m'+1:=⟨m-1,by omega⟩;go_wp2_with fail;go_roundw;case rel=>exact⟨m',cs,a,c,by go_num,by omega,.inl AU,NR.out,O6.out,R6.out,P6.out,Q6.out,M6.out,hz6⟩
      case measure=>simp[intOf]
     have hd:decide (x∈cs)=false:=(by simpa using wK);rw[hd];clear wK hd;obtain⟨m',rfl⟩:∃m',m=m'+1:=⟨m-1,by omega⟩;go_wp2_with (at_builtin;refine wpList_append_own _ rfl _ _ 22 rfl w5.heap.size 3 i0 (.int .i64 0) 1 8 Tryz.underlying22 hi dt da cN rfl (by decide) (.slice a cs.length c) cs.length (an cs) rfl (O6.out.alloc _) ⟨w6.heap.size,0,none⟩ 1 1 (an [x]) rfl rfl (cell_one_new _ _ _) (gL _) (by unfold maxLen;omega) (by omega) (by simp;omega) ?_;intro v' wz bI aE eJ;have RZ:=aa ((R6.out.alloc _).grown aE (aJ O6.out R6.out.s (by decide)));have PZ:=aa ((P6.out.gr ((gfl _).alloc _)).grownA aE (fun B' e q=>by cases e;have:=(O6.out.lt _ q.symm).1;have:=sz5.out;omega));have QZ:=aa ((Q6.out.alloc _).grown aE (aJ O6.out Q6.out.s (by decide)));have MZ:=aa ((M6.out.alloc _).grown aE (fun k e=>by have:=(O6.out.lt k e).1;have:=M6.out.size;have:=sz5.out;have:=sz.out;omega));have OZ:=aa bI;have hzz:=aE.size;obtain⟨g',cap',rfl⟩:=ownsRow_succ bI;clear z2 zf zh;have z2:=RZ.out.cell 2 (by simp);have zf:=RZ.out.free 2;have zh:=RZ.out.has;simp only[List.getElem_cons_zero,List.getElem_cons_succ] at z2;clear bI aE eJ);go_roundw;case rel=>
      refine⟨m',cs++ [x],some ⟨g',0,none⟩,cap',by go_num,by simp;omega,.inl (by simp),?_,?_,?_,?_,?_,?_,?_⟩
      ·intro y hy;rcases List.mem_append.1 hy with q|q
       ·exact NR.out y q
       rw[List.mem_singleton.1 q];exact HX.out
      ·have:=l7 (o:=2) (x:= .slice (some ⟨g',0,none⟩) (cs.length+1) cap') OZ.out RZ.out.s (by decide);rw[List.length_append];simpa [an] using this
      ·have:=RZ.out.set 2 (.slice (some ⟨g',0,none⟩) (cs.length+1) cap');simpa using this
      ·exact PZ.out.oth2 (by omega)
      ·exact QZ.out.oth (by have:=sz.out;omega)
      ·exact MZ.out.setc (by have:=sz.out;omega)
      rw[bQ];simp only[World.size_alloc] at hzz;omega
     case measure=>simp[intOf]
    obtain rfl:m=0:=by omega
    obtain⟨a',c',e',uS,o1⟩:=fX HO.out;cases e'
    have O1:=aa (o1.low (base':=B) (by have:=sz5.out;omega));have GE':Hid (1<=cs.length):=aa (by have:=GE.out;omega);clear o1;go_wp2_with fail
    go_meet
    exact⟨[p],cs,⟨by simp,GE'.out,by omega,by simp[lP];omega,NR.out⟩,⟨_,_,_,_,HR.out,HP.out,Nat.le_refl _,O1.out,uS⟩,HQ.out,HM.out⟩
  ·go_wp2_with fail;refine(qx W2 b len k T2.out (by omega) (by omega)).mono ?_;rintro e w3 ⟨p,rfl,⟨p0,p1⟩,hm⟩;have iB:B+1<=w3.heap.size:=by have:=hm.size;have:=sz.out;omega
   have M3:=aa (M2.out.trans HB.out hm);have R3:=aa (hm.row R2.out (by have:=sz.out;omega));have R6:=aa (hm.row R5.out (by have:=HB.out;omega));have z1:=R3.out.cell 1 (by simp);have zf:=R3.out.free 1;have zh:=R3.out.has;simp only[List.getElem_cons_zero,List.getElem_cons_succ] at z1;clear hm;go_upto_region 9 with(fail);obtain⟨W4,hW4⟩:∃W4:World,Hid (W4=(w3.setCell ⟨B,1,none⟩ (.slice (some ⟨w3.heap.size,0,none⟩) 1 1)).alloc (.cells #[.int .i64 p] 3)):=⟨_,aa rfl⟩;rw[<-hW4.out];have P4:Hid (bt B W4 3 (an [p]) (some ⟨w3.heap.size,0,none⟩)):=aa (by rw[hW4.out];exact uI _ [p] _ rfl _ B w3.heap.size (bQ _ _ _) (by omega));have R4:Hid (Row W4 B 130 [.int .i64 3,.slice (some ⟨w3.heap.size,0,none⟩) 1 1,.slice none 0 0,.int .i64 0,.int .i64 0]):=aa (by rw[hW4.out];exact(R3.out.set 1 _).alloc _);have R7:Hid (Row W4 w.heap.size 130 [.int .i64 0,.slice none 0 0,.slice none 0 0,.int .i64 0,.int .i64 0]):=aa (by rw[hW4.out];exact(R6.out.oth (by have:=sz.out;omega)).alloc _);have M4:Hid (Mv b len w W4):=aa (by rw[hW4.out];exact(M3.out.setc (by have:=sz.out;omega)).alloc _);have sz4:Hid (w3.heap.size<W4.heap.size):=aa (by rw[hW4.out];simp[bQ]);have T4:=aa (M4.out.tp TT.out);obtain⟨pb,Ez⟩:∃pb:Nat,Hid (w3.heap.size=pb):=⟨_,aa rfl⟩;rw[Ez.out] at iB P4 R4 sz4;rw[Ez.out];clear hW4 M3 R3 R6 z1 zf zh Ez;go_wp2_with fail;refine(mZ W4 b len 1 4 T4.out (by omega) (by omega) (by omega)).mono ?_;rintro e w5 ⟨n,rfl,⟨n0,n1⟩,jn⟩;obtain⟨n,rfl⟩:=Int.eq_ofNat_of_zero_le (show 0<=n by omega);have P5:=aa (jn.own1 P4.out (by have:=sz.out;omega));have R8:=aa (jn.row R4.out (by have:=sz.out;omega));have R9:=aa (jn.row R7.out (by have:=HB.out;omega));have M5:=aa (M4.out.trans HB.out jn);have sz5:Hid (pb<w5.heap.size):=aa (Nat.lt_of_lt_of_le sz4.out jn.size);clear jn P4 R4 R7 M4 sz4 T4;go_wp2_with fail;go_loopw [6] (fun i wr=>∃(m:Nat) (cs:List Int) (a c:_),i= .int .i64 m/\cs.length+m<=4/\(1<=cs.length∨1<=m)/\(∀x∈cs,lP x)/\wr.ownsRow w5.heap.size 3 1 (.slice a cs.length c) cs.length (an cs)/\Row wr B 130 [.int .i64 3,.slice (some ⟨pb,0,none⟩) 1 1,.slice a cs.length c,.int .i64 0,.int .i64 0]/\bt B wr 3 (an [p]) (some ⟨pb,0,none⟩)/\Row wr w.heap.size 130 [.int .i64 0,.slice none 0 0,.slice none 0 0,.int .i64 0,.int .i64 0]/\Mv b len w wr/\w5.heap.size<=wr.heap.size) (fun i _=>(intOf i).toNat);case atStart=>exact⟨n,[],none,0,rfl,by simp;omega,.inr (by omega),by simp,World.ownsRow_nil _ _ _ _,R8.out,P5.out,R9.out,M5.out,Nat.le_refl _⟩
   case round=>
    clear P5 R8 R9 M5;obtain⟨m,cs,a,c,rfl,mI,tC,tn,ho,hr,hp,hq,hm,hz⟩:=hrel;have GE:=aa tC;have NR:=aa tn;have HO:=aa ho;have HR:=aa hr;have HP:=aa hp;have HQ:=aa hq;have HM:=aa hm;clear tC tn ho hr hp hq hm;obtain⟨wo,rfl⟩:∃wo:World,wo=wr:=⟨_,rfl⟩;by_cases jx:0<m
    ·have g0:(0:Int)<m:=(by omega);go_wp2_with fail;refine(dG wo b len (HM.out.tp TT.out) _ rfl _ 7 [1,2,3,4,5,8,64] lP rfl rfl (by omega) (by omega) (by simp[lP])).mono ?_;rintro e w6 ⟨x,rfl,hx,fS⟩;have HX:=aa hx;have bo:Hid (b<wo.heap.size):=aa (HM.out.tp TT.out).has;have O6:=aa (fS.owns HO.out (by have:=sz.out;have:=sz5.out;omega));have R6:=aa (fS.row HR.out (by have:=sz.out;omega));have P6:=aa (fS.own1 HP.out (by have:=sz.out;omega));have Q6:=aa (fS.row HQ.out (by have:=HB.out;omega));have M6:=aa (HM.out.trans HB.out fS);have hz6:w5.heap.size<=w6.heap.size:=Nat.le_trans hz fS.size;clear hx fS HO HR HP HQ HM;have z2:=R6.out.cell 2 (by simp);have zf:=R6.out.free 2;have zh:=R6.out.has;simp only[List.getElem_cons_zero,List.getElem_cons_succ] at z2;obtain⟨a',c',e',uS,o1⟩:=fX O6.out;cases e'
     have S6:Hid (ag 1 RI w6 a cs):=aa (o1.slI fun j hj=>by have:=NR.out _ (List.getElem_mem hj);unfold lP at this;unfold aK;omega);clear o1;go_wp2_with fail;refine(Lk cs a c x _ S6.out (by unfold Fit;omega)).mono ?_;rintro e w' ⟨rfl,rfl⟩;by_cases wK:x∈cs
     ·have hd:decide (x∈cs)=true:=(by simpa using wK);rw[hd];have AU:1<=cs.length:=List.length_pos_of_mem wK;clear wK hd;obtain⟨m',rfl⟩:∃m',m=m'+1:=⟨m-1,by omega⟩;go_wp2_with fail;go_roundw;case rel=>exact⟨m',cs,a,c,by go_num,by omega,.inl AU,NR.out,O6.out,R6.out,P6.out,Q6.out,M6.out,hz6⟩
      case measure=>simp[intOf]
     have hd:decide (x∈cs)=false:=(by simpa using wK);rw[hd];clear wK hd;obtain⟨m',rfl⟩:∃m',m=m'+1:=⟨m-1,by omega⟩;go_wp2_with (at_builtin;refine wpList_append_own _ rfl _ _ 22 rfl w5.heap.size 3 i0 (.int .i64 0) 1 8 Tryz.underlying22 hi dt da cN rfl (by decide) (.slice a cs.length c) cs.length (an cs) rfl (O6.out.alloc _) ⟨w6.heap.size,0,none⟩ 1 1 (an [x]) rfl rfl (cell_one_new _ _ _) (gL _) (by unfold maxLen;omega) (by omega) (by simp;omega) ?_;intro v' wz bI aE eJ;have RZ:=aa ((R6.out.alloc _).grown aE (aJ O6.out R6.out.s (by decide)));have PZ:=aa ((P6.out.gr ((gfl _).alloc _)).grownA aE (fun B' e q=>by cases e;have:=(O6.out.lt _ q.symm).1;have:=sz5.out;omega));have QZ:=aa ((Q6.out.alloc _).grown aE (aJ O6.out Q6.out.s (by decide)));have MZ:=aa ((M6.out.alloc _).grown aE (fun k e=>by have:=(O6.out.lt k e).1;have:=M6.out.size;have:=sz5.out;have:=sz.out;omega));have OZ:=aa bI;have hzz:=aE.size;obtain⟨g',cap',rfl⟩:=ownsRow_succ bI;clear z2 zf zh;have z2:=RZ.out.cell 2 (by simp);have zf:=RZ.out.free 2;have zh:=RZ.out.has;simp only[List.getElem_cons_zero,List.getElem_cons_succ] at z2;clear bI aE eJ);go_roundw;case rel=>
      refine⟨m',cs++ [x],some ⟨g',0,none⟩,cap',by go_num,by simp;omega,.inl (by simp),?_,?_,?_,?_,?_,?_,?_⟩
      ·intro y hy;rcases List.mem_append.1 hy with q|q
       ·exact NR.out y q
       rw[List.mem_singleton.1 q];exact HX.out
      ·have:=l7 (o:=2) (x:= .slice (some ⟨g',0,none⟩) (cs.length+1) cap') OZ.out RZ.out.s (by decide);rw[List.length_append];simpa [an] using this
      ·have:=RZ.out.set 2 (.slice (some ⟨g',0,none⟩) (cs.length+1) cap');simpa using this
      ·exact PZ.out.oth2 (by omega)
      ·exact QZ.out.oth (by have:=sz.out;omega)
      ·exact MZ.out.setc (by have:=sz.out;omega)
      rw[bQ];simp only[World.size_alloc] at hzz;omega
     case measure=>simp[intOf]
    obtain rfl:m=0:=by omega
    obtain⟨a',c',e',uS,o1⟩:=fX HO.out;cases e'
    have O1:=aa (o1.low (base':=B) (by have:=sz5.out;omega));have GE':Hid (1<=cs.length):=aa (by have:=GE.out;omega);clear o1;go_wp2_with fail
    go_meet
    exact⟨[p],cs,⟨by simp,GE'.out,by omega,by simp[lP];omega,NR.out⟩,⟨_,_,_,_,HR.out,HP.out,Nat.le_refl _,O1.out,uS⟩,HQ.out,HM.out⟩
  ·go_wp2_with fail;refine(mZ W2 b len 1 3 T2.out (by omega) (by omega) (by omega)).mono ?_;rintro e w5 ⟨n,rfl,⟨n0,n1⟩,jn⟩;obtain⟨n,rfl⟩:=Int.eq_ofNat_of_zero_le (show 0<=n by omega);have R8:=aa (jn.row R2.out (by have:=sz.out;omega));have R9:=aa (jn.row R5.out (by have:=HB.out;omega));have M5:=aa (M2.out.trans HB.out jn);have sz5:Hid (B<w5.heap.size):=aa (by have:=jn.size;have:=sz.out;omega);clear jn;go_wp2_with fail;go_loopw [8] (fun i wr=>∃(m:Nat) (ps:List Int) (a c:_),i= .int .i64 m/\ps.length+m<=3/\(1<=ps.length∨1<=m)/\(∀x∈ps,lP x)/\wr.ownsRow w5.heap.size 3 1 (.slice a ps.length c) ps.length (an ps)/\Row wr B 130 [.int .i64 4,.slice a ps.length c,.slice none 0 0,.int .i64 0,.int .i64 0]/\Row wr w.heap.size 130 [.int .i64 0,.slice none 0 0,.slice none 0 0,.int .i64 0,.int .i64 0]/\Mv b len w wr/\w5.heap.size<=wr.heap.size) (fun i _=>(intOf i).toNat);case atStart=>exact⟨n,[],none,0,rfl,by simp;omega,.inr (by omega),by simp,World.ownsRow_nil _ _ _ _,R8.out,R9.out,M5.out,Nat.le_refl _⟩
   case round=>
    clear R8 R9 M5;obtain⟨m,ps,a,c,rfl,mI,tC,tn,ho,hr,hq,hm,hz⟩:=hrel;have GE:=aa tC;have NR:=aa tn;have HO:=aa ho;have HR:=aa hr;have HQ:=aa hq;have HM:=aa hm;clear tC tn ho hr hq hm;obtain⟨wo,rfl⟩:∃wo:World,wo=wr:=⟨_,rfl⟩;have z1:=HR.out.cell 1 (by simp);have zf:=HR.out.free 1;have zh:=HR.out.has;simp only[List.getElem_cons_zero,List.getElem_cons_succ] at z1;by_cases jx:0<m
    ·have g0:(0:Int)<m:=(by omega);obtain⟨m',rfl⟩:∃m',m=m'+1:=⟨m-1,by omega⟩;go_wp2_with fail
     go_region_law (first
      |(go_simp;go_at_call 43;refine(qx _ b len k ((HM.out.gr grr).tp TT.out) (by omega) (by omega)).mono ?_;rintro e w6 ⟨x,rfl,⟨x0,x1⟩,fS⟩;have HX:Hid (lP x):=aa ⟨x0,by omega⟩;have O6:=aa (fS.owns (Gr.owns HO.out grr) (by have:=sz.out;have:=sz5.out;omega));have R6:=aa (fS.row (HR.out.gr grr) (by have:=sz.out;omega));have Q6:=aa (fS.row (HQ.out.gr grr) (by have:=HB.out;omega));have M6:=aa ((HM.out.gr grr).trans HB.out fS);have hz6:w5.heap.size<=w6.heap.size:=Nat.le_trans hz (by have:=fS.size;simpa using this);clear fS x0 x1 z1 zf zh;have z1:=R6.out.cell 1 (by simp);have zf:=R6.out.free 1;have zh:=R6.out.has;simp only[List.getElem_cons_zero,List.getElem_cons_succ] at z1)
      |(refine step_append_lies _ (by rfl) _ _ _ (by rfl) w5.heap.size 3 i0 (.int .i64 0) 1 8 Tryz.underlying22 hi dt da cN rfl (by decide) (.slice a ps.length c) ps.length (an ps) (by simp[Act.eval,Act.put]) (O6.out.alloc _) ⟨w6.heap.size,0,none⟩ 1 1 (an [x]) (by simp[Act.eval,Act.put]) rfl (cell_one_new _ _ _) (gL _) (by omega) (by unfold maxLen;omega) (by omega) (by simp;omega) _ rfl ?_;intro g' cap' wz bI aE ot aA;have RZ:=aa ((R6.out.alloc _).grown aE (aJ O6.out R6.out.s (by decide)));have QZ:=aa ((Q6.out.alloc _).grown aE (aJ O6.out Q6.out.s (by decide)));have MZ:=aa ((M6.out.alloc _).grown aE (fun k e=>by have:=(O6.out.lt k e).1;have:=M6.out.size;have:=sz5.out;have:=sz.out;omega));have OZ:=aa bI;have hzz:=aE.size;clear z1 zf zh bI aE ot aA;have z1:=RZ.out.cell 1 (by simp);have zf:=RZ.out.free 1;have zh:=RZ.out.has;simp only[List.getElem_cons_zero,List.getElem_cons_succ] at z1))
     all_goals
      go_wp2_with fail;go_roundw;case rel=>
       refine⟨m',ps++ [x],some ⟨g',0,none⟩,cap',by go_num,by simp;omega,.inl (by simp),?_,?_,?_,?_,?_,?_⟩
       ·intro y hy;rcases List.mem_append.1 hy with q|q
        ·exact NR.out y q
        rw[List.mem_singleton.1 q];exact HX.out
       ·have:=l7 (o:=1) (x:= .slice (some ⟨g',0,none⟩) (ps.length+1) cap') OZ.out RZ.out.s (by decide);rw[List.length_append];simpa [an] using this
       ·have:=RZ.out.set 1 (.slice (some ⟨g',0,none⟩) (ps.length+1) cap');simpa using this
       ·exact QZ.out.oth (by have:=sz.out;omega)
       ·exact MZ.out.setc (by have:=sz.out;omega)
       rw[bQ];simp at hzz;omega
      case measure=>simp[intOf]
    obtain rfl:m=0:=by omega
    obtain⟨a',c',e',uS,o1⟩:=fX HO.out;cases e'
    have O1:=aa (o1.low (base':=B) (by have:=sz5.out;omega));have GE':Hid (1<=ps.length):=aa (by have:=GE.out;omega);clear o1;go_wp2_with fail;refine(Tb wo b len ps.length (HM.out.tp TT.out) (by omega)).mono ?_;rintro e w7 ⟨xs,v7,rfl,hp7,ho7,hm7⟩;have jp:xs.length=ps.length:=(by have:=hp7.length_eq;simpa [upI] using this);have WX:Hid (∀x∈xs,lP x):=aa fun x hx=>by have:=Nx (hp7.mem_iff.1 hx);unfold lP;omega
    obtain⟨a7,c7,rfl⟩:=be ho7;obtain⟨a7',c7',e7,hc7,o7⟩:=fX ho7;cases e7
    have XL:=aa jp;have O7:=aa (o7.low (base':=B+1) (by have:=HM.out.size;have:=sz5.out;omega));have P7:=aa ((hm7.own1 (O1.out) (by have:=sz.out;omega)));have P8:=aa (hm7.own1 ((Ix HO.out (by have:=sz5.out;omega):bt (B+1) wo 3 (an ps) a)) (by have:=sz.out;omega));have R7:=aa (hm7.row HR.out (by have:=sz.out;omega));have Q7:=aa (hm7.row HQ.out (by have:=HB.out;omega));have M7:=aa (HM.out.trans HB.out hm7);clear hp7 ho7 hm7 jp o7 z1 zf zh HO HR HQ HM P7;have z2:=R7.out.cell 2 (by simp);have zf:=R7.out.free 2;have zh:=R7.out.has;simp only[List.getElem_cons_zero,List.getElem_cons_succ] at z2;go_upto_region 21 with(fail);obtain⟨W8,hW8⟩:∃W8:World,Hid (W8=w7.setCell ⟨B,2,none⟩ (.slice a7 ps.length c7)):=⟨_,aa rfl⟩;rw[<-hW8.out];have O8:Hid (bt (B+1) W8 3 (an xs) a7):=aa (by rw[hW8.out];exact O7.out.oth (by omega));have P9:Hid (bt (B+1) W8 3 (an ps) a):=aa (by rw[hW8.out];exact P8.out.oth (by omega));have R8:Hid (Row W8 B 130 [.int .i64 4,.slice a ps.length c,.slice a7 ps.length c7,.int .i64 0,.int .i64 0]):=aa (by rw[hW8.out];exact R7.out.set 2 _);have Q8:Hid (Row W8 w.heap.size 130 [.int .i64 0,.slice none 0 0,.slice none 0 0,.int .i64 0,.int .i64 0]):=aa (by rw[hW8.out];exact Q7.out.oth (by have:=sz.out;omega));have M8:Hid (Mv b len w W8):=aa (by rw[hW8.out];exact M7.out.setc (by have:=sz.out;omega));have bw:Hid (b<B+1):=aa (by have:=sz.out;omega);have h8:Hid (W8.heap.size≥B+1):=aa R8.out.has;clear hW8 O7 P8 R7 Q7 M7 z2 zf zh;have z2:=R8.out.cell 2 (by simp);have zf:=R8.out.free 2;have zh:=R8.out.has;simp only[List.getElem_cons_zero,List.getElem_cons_succ] at z2;have ge1:1<=ps.length:=GE'.out
    go_region_with (go_at_call 109;refine(mZ _ b len 1 (ps.length:Int) ((M8.out.gr grr).tp TT.out) (by omega) (by omega) (by omega)).mono ?_;rintro e w9 ⟨x,rfl,⟨x0,x1⟩,tW⟩;obtain⟨q,rfl⟩:=Int.eq_ofNat_of_zero_le (show 0<=x by omega);have O9:=aa (tW.own1 (O8.out.gr grr) bw.out);have Yx:=aa (tW.own1 (P9.out.gr grr) bw.out);have R9:=aa (tW.row (R8.out.gr grr) (by have:=sz.out;omega));have Q9:=aa (tW.row (Q8.out.gr grr) (by have:=HB.out;omega));have M9:=aa ((M8.out.gr grr).trans HB.out tW);clear tW z2 zf zh;have z2:=R9.out.cell 2 (by simp);have zf:=R9.out.free 2;have zh:=R9.out.has;simp only[List.getElem_cons_zero,List.getElem_cons_succ] at z2;have qc:(q:Int)<=c7:=(by omega);have qn:q<=ps.length:=(by omega))
    all_goals (go_wp2_with fail;go_meet)
    all_goals
     have tl:(xs.take q).length=q:=(by rw[List.length_take,XL.out];omega);refine⟨ps,xs.take q,⟨by omega,by rw[tl];omega,by rw[tl];omega,NR.out,fun y hy=>WX.out y (List.mem_of_mem_take hy)⟩,⟨a,c,a7,c7,?_,(Yx.out.oth (by omega)).low (by omega),uS,(Sw O9.out q|>.oth (by omega)).low (by omega),by rw[tl];omega⟩,Q9.out.oth (by have:=sz.out;omega),M9.out.setc (by have:=sz.out;omega)⟩;rw[tl];exact R9.out.set 2 _
  go_wp2_with fail;refine(qx W2 b len k T2.out (by omega) (by omega)).mono ?_;rintro e w3 ⟨p,rfl,⟨p0,p1⟩,hm⟩;have iB:B<=w3.heap.size:=by have:=hm.size;have:=sz.out;omega
  have M3:=aa (M2.out.trans HB.out hm);have R3:=aa (hm.row R2.out (by have:=sz.out;omega));have R6:=aa (hm.row R5.out (by have:=HB.out;omega));have z1:=R3.out.cell 1 (by simp);have z2:=R3.out.cell 2 (by simp);have zf:=R3.out.free 1;have zg:=R3.out.free 2;have zh:=R3.out.has;simp only[List.getElem_cons_zero,List.getElem_cons_succ] at z1 z2;clear hm;go_wp2_with fail
  go_meet
  refine⟨[p],[0,1],⟨by simp,by simp,by simp,by simp[lP];omega,by simp[lP]⟩,⟨some ⟨w3.heap.size,0,none⟩,1,some ⟨w3.heap.size+1,0,none⟩,2,?_,?_,Nat.le_refl _,?_,Nat.le_refl _⟩,?_,?_⟩
  ·exact(((R3.out.set 1 _).set 2 _).alloc _).alloc _
  ·exact(uI _ [p] _ rfl _ B w3.heap.size (by simp[bQ]) iB).gr ((gfl _).alloc _)
  ·exact uI _ [0,1] _ rfl _ B (w3.heap.size+1) (by simp[bQ]) (by omega)
  ·exact(((R6.out.oth (by have:=sz.out;omega)).oth (by have:=sz.out;omega)).alloc _).alloc _
  exact(((M3.out.setc (by have:=sz.out;omega)).setc (by have:=sz.out;omega)).alloc _).alloc _
 obtain⟨ps,cs,Af,⟨ap,cp,ac,cc,hr,hp,hpc,ha,hac⟩,hq,hm⟩:=hcut;obtain⟨WC,rfl⟩:∃WC:World,WC=wc:=⟨_,rfl⟩;have OL:=aa Af;have RC:=aa hr;have PC:=aa hp;have AC:=aa ha;have QC:=aa hq;have MC:=aa hm;have bB:Hid (b<B):=aa sz.out.1;clear Af hr hp ha hq hm R2 R5 M2 T2;go_wp2_with fail;refine(qx WC b len 5 (MC.out.tp TT.out) (by omega) (by omega)).mono ?_;rintro e w3 ⟨x,rfl,⟨x0,x1⟩,iz⟩;have R3:=aa (iz.row RC.out (by have:=bB.out;omega));have P3:=aa (iz.own1 PC.out bB.out);have A3:=aa (iz.own1 AC.out bB.out);have Q3:=aa (iz.row QC.out (by have:=HB.out;omega));have M3:=aa (MC.out.trans HB.out iz);clear iz RC PC AC QC MC;have r0:=R3.out.cell 0 (by simp);have r1:=R3.out.cell 1 (by simp);have r2:=R3.out.cell 2 (by simp);have r3:=R3.out.cell 3 (by simp);have r4:=R3.out.cell 4 (by simp);have rf:=R3.out.free 3;have rh:=R3.out.has;have q0:=Q3.out.cell 0 (by simp);have q1:=Q3.out.cell 1 (by simp);have q2:=Q3.out.cell 2 (by simp);have q3:=Q3.out.cell 3 (by simp);have q4:=Q3.out.cell 4 (by simp);have qf0:=Q3.out.free 0;have qf1:=Q3.out.free 1;have qf2:=Q3.out.free 2;have qf3:=Q3.out.free 3;have qf4:=Q3.out.free 4;have qh:=Q3.out.has;simp only[List.getElem_cons_zero,List.getElem_cons_succ] at r0 r1 r2 r3 r4 q0 q1 q2 q3 q4;by_cases hx:x=0
 ·have hxb:(x==0)=true:=by simp[hx]
  clear hx;go_wp2_with fail;refine(dG w3 b len (M3.out.tp TT.out) _ rfl _ 4 [0,1,10,100] (gv 0 100) rfl rfl (by omega) (by omega) (by simp[gv])).mono ?_;rintro e w4 ⟨lo,rfl,⟨lo0,lo1⟩,qz⟩;have R4:=aa (qz.row R3.out (by have:=bB.out;omega));have P4:=aa (qz.own1 P3.out bB.out);have A4:=aa (qz.own1 A3.out bB.out);have Q4:=aa (qz.row Q3.out (by have:=HB.out;omega));have M4:=aa (M3.out.trans HB.out qz);clear qz R3 P3 A3 Q3 M3 r0 r1 r2 r3 r4 rf rh q0 q1 q2 q3 q4 qf0 qf1 qf2 qf3 qf4 qh;have r3:=R4.out.cell 3 (by simp);have rf:=R4.out.free 3;have rh:=R4.out.has;simp only[List.getElem_cons_zero,List.getElem_cons_succ] at r3;go_upto_region 24 with(fail);obtain⟨W5,hW5⟩:∃W5:World,Hid (W5=w4.setCell ⟨B,3,none⟩ (.int .i64 lo)):=⟨_,aa rfl⟩;rw[<-hW5.out];have R5:Hid (Row W5 B 130 [.int .i64 kd,.slice ap ps.length cp,.slice ac cs.length cc,.int .i64 lo,.int .i64 0]):=aa (by rw[hW5.out];exact R4.out.set 3 _);have P5:Hid (bt B W5 3 (an ps) ap):=aa (by rw[hW5.out];exact yL R4.out P4.out);have A5:Hid (bt B W5 3 (an cs) ac):=aa (by rw[hW5.out];exact yL R4.out A4.out);have Q5:Hid (Row W5 w.heap.size 130 [.int .i64 0,.slice none 0 0,.slice none 0 0,.int .i64 0,.int .i64 0]):=aa (by rw[hW5.out];exact Q4.out.oth (by have:=sz.out;omega));have M5:Hid (Mv b len w W5):=aa (by rw[hW5.out];exact M4.out.setc (by have:=sz.out;omega));clear hW5 R4 P4 A4 Q4 M4 r3 rf rh;have r3:=R5.out.cell 3 (by simp);have rh:=R5.out.has;simp only[List.getElem_cons_zero,List.getElem_cons_succ] at r3
  go_region_with (go_at_call 35;refine(Qy _ W5 b len ((M5.out.gr grr).tp TT.out) _ #[.int .i64 0,.int .i64 20,.int .i64 200,.int .i64 1000000000] 4 [0,20,200,1000000000] (gv 0 1000000000) rfl grr (M5.out.tp TT.out).has rfl rfl (by omega) (by omega) (by simp[gv])).mono ?_;rintro e w6 ⟨x6,rfl,⟨Zp,Zt⟩,fS⟩;have R6:=aa (fS.row (R5.out.gr grr) (by have:=bB.out;omega));have P6:=aa (fS.own1 (P5.out.gr grr) bB.out);have A6:=aa (fS.own1 (A5.out.gr grr) bB.out);have Q6:=aa (fS.row (Q5.out.gr grr) (by have:=HB.out;omega));have M6:=aa ((M5.out.gr grr).trans HB.out fS);clear fS r3 rh;have r0:=R6.out.cell 0 (by simp);have r1:=R6.out.cell 1 (by simp);have r2:=R6.out.cell 2 (by simp);have r3:=R6.out.cell 3 (by simp);have r4:=R6.out.cell 4 (by simp);have rf:=R6.out.free 4;have rh:=R6.out.has;have q0:=Q6.out.cell 0 (by simp);have q1:=Q6.out.cell 1 (by simp);have q2:=Q6.out.cell 2 (by simp);have q3:=Q6.out.cell 3 (by simp);have q4:=Q6.out.cell 4 (by simp);have qf0:=Q6.out.free 0;have qf1:=Q6.out.free 1;have qf2:=Q6.out.free 2;have qf3:=Q6.out.free 3;have qf4:=Q6.out.free 4;have qh:=Q6.out.has;simp only[List.getElem_cons_zero,List.getElem_cons_succ] at r0 r1 r2 r3 r4 q0 q1 q2 q3 q4)
  all_goals
   obtain⟨hi,hhi⟩:∃hi:Int,Hid (lo+x6=hi):=⟨_,aa rfl⟩;have AN:0<=hi/\hi<=2000000000:=by have:=hhi.out;omega
   have hw:IntKind.i64.wrap (lo+x6)=hi:=by rw[hhi.out];simp[IntKind.wrap,IntKind.bits,IntKind.signed]<;>omega
   rw[hw];obtain⟨WZ,hWZ⟩:∃WZ:World,Hid (WZ=w6.setCell ⟨B,4,none⟩ (.int .i64 hi)):=⟨_,aa rfl⟩;rw[<-hWZ.out];have RZ:Hid (Row WZ B 130 [.int .i64 kd,.slice ap ps.length cp,.slice ac cs.length cc,.int .i64 lo,.int .i64 hi]):=aa (by rw[hWZ.out];exact R6.out.set 4 _);have PZ:Hid (bt B WZ 3 (an ps) ap):=aa (by rw[hWZ.out];exact yL R6.out P6.out);have AZ:Hid (bt B WZ 3 (an cs) ac):=aa (by rw[hWZ.out];exact yL R6.out A6.out);have QZ:Hid (Row WZ w.heap.size 130 [.int .i64 0,.slice none 0 0,.slice none 0 0,.int .i64 0,.int .i64 0]):=aa (by rw[hWZ.out];exact Q6.out.oth (by have:=sz.out;omega));have MZ:Hid (Mv b len w WZ):=aa (by rw[hWZ.out];exact M6.out.setc (by have:=sz.out;omega));clear hWZ R6 P6 A6 Q6 M6 r0 r1 r2 r3 r4 rf rh q0 q1 q2 q3 q4 qf0 qf1 qf2 qf3 qf4 qh hw;have r0:=RZ.out.cell 0 (by simp);have r1:=RZ.out.cell 1 (by simp);have r2:=RZ.out.cell 2 (by simp);have r3:=RZ.out.cell 3 (by simp);have r4:=RZ.out.cell 4 (by simp);have rh:=RZ.out.has;have q0:=QZ.out.cell 0 (by simp);have q1:=QZ.out.cell 1 (by simp);have q2:=QZ.out.cell 2 (by simp);have q3:=QZ.out.cell 3 (by simp);have q4:=QZ.out.cell 4 (by simp);have qf0:=QZ.out.free 0;have qf1:=QZ.out.free 1;have qf2:=QZ.out.free 2;have qf3:=QZ.out.free 3;have qf4:=QZ.out.free 4;have qh:=QZ.out.has;simp only[List.getElem_cons_zero,List.getElem_cons_succ] at r0 r1 r2 r3 r4 q0 q1 q2 q3 q4;go_wp2_with fail;obtain⟨WF,hWF⟩:∃WF:World,Hid (WF=(((((WZ.setCell ⟨w.heap.size,0,none⟩ (.int .i64 kd)).setCell ⟨w.heap.size,1,none⟩ (.slice ap ps.length cp)).setCell ⟨w.heap.size,2,none⟩ (.slice ac cs.length cc)).setCell ⟨w.heap.size,3,none⟩ (.int .i64 lo)).setCell ⟨w.heap.size,4,none⟩ (.int .i64 hi))):=⟨_,aa rfl⟩;rw[<-hWF.out];have QF:Hid (Row WF w.heap.size 130 [.int .i64 kd,.slice ap ps.length cp,.slice ac cs.length cc,.int .i64 lo,.int .i64 hi]):=aa (by rw[hWF.out];exact((((QZ.out.set 0 _).set 1 _).set 2 _).set 3 _).set 4 _);have PF:Hid (bt B WF 3 (an ps) ap):=aa (by rw[hWF.out];exact((((PZ.out.oth (by have:=sz.out;omega)).oth (by have:=sz.out;omega)).oth (by have:=sz.out;omega)).oth (by have:=sz.out;omega)).oth (by have:=sz.out;omega));have AF:Hid (bt B WF 3 (an cs) ac):=aa (by rw[hWF.out];exact((((AZ.out.oth (by have:=sz.out;omega)).oth (by have:=sz.out;omega)).oth (by have:=sz.out;omega)).oth (by have:=sz.out;omega)).oth (by have:=sz.out;omega));have MF:Hid (Mv b len w WF):=aa (by rw[hWF.out];exact((((MZ.out.setc (Nat.le_refl _)).setc (Nat.le_refl _)).setc (Nat.le_refl _)).setc (Nat.le_refl _)).setc (Nat.le_refl _));clear hWF;have f0:=QF.out.cell 0 (by simp);have f1:=QF.out.cell 1 (by simp);have f2:=QF.out.cell 2 (by simp);have f3:=QF.out.cell 3 (by simp);have f4:=QF.out.cell 4 (by simp);simp only[List.getElem_cons_zero,List.getElem_cons_succ] at f0 f1 f2 f3 f4;refine bodyPost_ret (v:= .agg #[.int .i64 kd,.slice ap ps.length cp,.slice ac cs.length cc,.int .i64 lo,.int .i64 hi]) ?_ rfl ⟨kd,ps,cs,lo,hi,ap,cp,ac,cc,rfl,OL.out,⟨kd1,kd2⟩,by omega,by omega,PF.out.low (by have:=sz.out;omega),hpc,AF.out.low (by have:=sz.out;omega),hac,MF.out⟩;simp[results,Tryz.results108,go_sem,f0,f1,f2,f3,f4]
 have hxb:(x==0)=false:=by simp[hx]
 clear hx;go_wp2_with fail;obtain⟨WF,hWF⟩:∃WF:World,Hid (WF=(((((w3.setCell ⟨w.heap.size,0,none⟩ (.int .i64 kd)).setCell ⟨w.heap.size,1,none⟩ (.slice ap ps.length cp)).setCell ⟨w.heap.size,2,none⟩ (.slice ac cs.length cc)).setCell ⟨w.heap.size,3,none⟩ (.int .i64 0)).setCell ⟨w.heap.size,4,none⟩ (.int .i64 0))):=⟨_,aa rfl⟩;rw[<-hWF.out];have QF:Hid (Row WF w.heap.size 130 [.int .i64 kd,.slice ap ps.length cp,.slice ac cs.length cc,.int .i64 0,.int .i64 0]):=aa (by rw[hWF.out];exact((((Q3.out.set 0 _).set 1 _).set 2 _).set 3 _).set 4 _);have PF:Hid (bt B WF 3 (an ps) ap):=aa (by rw[hWF.out];exact((((P3.out.oth (by have:=sz.out;omega)).oth (by have:=sz.out;omega)).oth (by have:=sz.out;omega)).oth (by have:=sz.out;omega)).oth (by have:=sz.out;omega));have AF:Hid (bt B WF 3 (an cs) ac):=aa (by rw[hWF.out];exact((((A3.out.oth (by have:=sz.out;omega)).oth (by have:=sz.out;omega)).oth (by have:=sz.out;omega)).oth (by have:=sz.out;omega)).oth (by have:=sz.out;omega));have MF:Hid (Mv b len w WF):=aa (by rw[hWF.out];exact((((M3.out.setc (Nat.le_refl _)).setc (Nat.le_refl _)).setc (Nat.le_refl _)).setc (Nat.le_refl _)).setc (Nat.le_refl _));clear hWF;have f0:=QF.out.cell 0 (by simp);have f1:=QF.out.cell 1 (by simp);have f2:=QF.out.cell 2 (by simp);have f3:=QF.out.cell 3 (by simp);have f4:=QF.out.cell 4 (by simp);simp only[List.getElem_cons_zero,List.getElem_cons_succ] at f0 f1 f2 f3 f4;refine bodyPost_ret (v:= .agg #[.int .i64 kd,.slice ap ps.length cp,.slice ac cs.length cc,.int .i64 0,.int .i64 0]) ?_ rfl ⟨kd,ps,cs,0,0,ap,cp,ac,cc,rfl,OL.out,⟨kd1,kd2⟩,by omega,by omega,PF.out.low (by have:=sz.out;omega),hpc,AF.out.low (by have:=sz.out;omega),hac,MF.out⟩;simp[results,Tryz.results108,go_sem,f0,f1,f2,f3,f4]
end Go.Proofs.YtlmhkjdkcoiioaaGreatDoor
