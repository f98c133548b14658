/- Lemmas and contracts for the proof of PointAlone (several texts in one, printed by wip/tools/pack.py): ClQ RsS CdA SoI CdB ClG BnA BnC StG ZFind ApG QcB. -/
import Derived.Test.YtlmhkjdkcoiioaaGreatDoorAl8pp
import Derived.Test.YtlmhkjdkcoiioaaGreatDoorAl8pr
import Derived.Test.YtlmhkjdkcoiioaaGreatDoorAl8pq
import Derived.Test.YtlmhkjdkcoiioaaGreatDoorAl8pi
import Derived.Test.YtlmhkjdkcoiioaaGreatDoorAl8po
import Derived.Test.YtlmhkjdkcoiioaaGreatDoorAl8pj
import Derived.Test.YtlmhkjdkcoiioaaGreatDoorAl8pk
import Derived.Maps.RangeWalk
import Derived.Test.YtlmhkjdkcoiioaaGreatDoorAl8pa
import Derived.Test.YtlmhkjdkcoiioaaGreatDoorAl8pb
set_option maxRecDepth 100000
set_option maxHeartbeats 16000000
set_option linter.unusedVariables false
set_option linter.unusedSimpArgs false
namespace Go.Proofs.YtlmhkjdkcoiioaaGreatDoor
section
open Go.RowKit
open Classical
structure ClsTo(l:List Clk)(D:List Int->Option Int)(n:Nat)(cs:List (List Int)):Prop where
 ok:Sq l cs
 mem:∀s,s∈cs↔(aI l s/\(D s).isSome=true/\num l s<(n:Int))
 inc:(cs.map (num l)).Pairwise (·< ·)
structure ClsOk(l:List Clk)(D:List Int->Option Int)(cs:List (List Int)):Prop where
 ok:Sq l cs
 mem:∀s,s∈cs↔(D s).isSome=true
 inc:(cs.map (num l)).Pairwise (·< ·)
section
variable {l:List Clk} {D:List Int->Option Int} {cs ds:List (List Int)} {V:List (List Int×Int)}
end
section
variable {l:List Clk} {ms:List Lmt} {f t:List Int}
end
abbrev BT:=Brn×Option Addr×Nat
def blk(x:BT):Option Nat:=(Value.slice x.2.1 x.1.next.length x.2.2).ownBlock
structure NextOwn(base:Nat)(w:World)(xs:List BT):Prop where
 own:∀x∈xs,w.ownsRow base 3 1 (.slice x.2.1 x.1.next.length x.2.2) x.1.next.length (an x.1.next)
 one:xs.Pairwise fun x y=>blk x≠blk y
theorem UE{w:World}{a:Option Addr}{xs:List Int}(h:ag 1 RI w a xs):yT w a xs.length 1 (an xs):=by
 refine⟨by simp[an],fun h0=>?_⟩;obtain⟨g,o,rfl,_⟩:=h 0 (by omega);refine⟨_,rfl,fun j u hu=>?_⟩;have hj:j<xs.length:=by have:=(List.getElem?_eq_some_iff.1 hu).1;simpa [an] using this
 obtain⟨g',o',e,c,_⟩:=h j hj;cases e
 simp only[an,List.getElem?_map,List.getElem?_eq_getElem hj,Option.map_some] at hu;injection hu with hu;rw[<-hu,Addr.add_lit];rw[Nat.mul_one] at c;exact c
section
variable {b len:Nat} {w W W':World} {xs:List BT} {g cap:Nat}
end
theorem KZ{w:World}{a:Option Addr}{xs:List Int}(h:ag 1 RI w a xs):∀k (hk:k<xs.length),aK xs[k]:=fun k hk=>by obtain⟨b,o,_,_,hw⟩:=h k hk;exact hw
def Xl(w:World)(s:List Int)(e:Ending)(w':World):Prop:=∃a c,e= .returned (.slice a s.length c)/\ag 1 RI w' a s/\Gr w w'
theorem Qs(s:List Int)(aS:Option Addr)(cs:Nat)(w:World)(hs:ag 1 RI w aS s)(hl:s.length<=1000000):
  Calls Tryz.prog 120 #[.slice aS s.length cs] w (Xl w s):=by
 obtain⟨i0,hi,dt,da,cN⟩:=info_parts eS;have HW:=aa (KZ hs);cases aS with
 |none=>
  have e0:s= []:=by
   cases s with
   |nil=>rfl
   |cons x s=>obtain⟨b,o,e,_⟩:=hs 0 (by simp);cases e
  subst e0;have he:∀w:World,(binOp .eql 22 (.slice none 0 cs) (.slice none 0 0)).run Tryz.prog w= .ok (.bool true) w:=fun _=>rfl;clear hs;go_enter Tryz.func120,Tryz.ntmps120;go_wp2_with fail;go_ret;exact⟨none,0,rfl,ag.nil _ _ _ _,gfl _⟩
 |some p=>
  have he:∀w:World,(binOp .eql 22 (.slice (some p) s.length cs) (.slice none 0 0)).run Tryz.prog w= .ok (.bool false) w:=fun _=>rfl;have O1:(w.alloc (.cells #[] 3)).ownsRow w.heap.size 3 1 (.slice (some ⟨w.heap.size,0,none⟩) 0 0) 0 []:=World.ownsRow_lit w #[] 0 (Nat.le_refl _) (by unfold maxLen;omega) rfl;have OO:=aa O1;have GN:=aa (UE (hs.giI ((gfl w).alloc (.cells #[] 3))));clear O1 hs;go_enter Tryz.func120,Tryz.ntmps120;go_wp2_with (first
   |(at_builtin;refine bM _ rfl _ _ 22 rfl w.heap.size 3 i0 (.int .i64 0) 1 8 Tryz.underlying22 hi dt da cN rfl (by decide) (.slice (some ⟨w.heap.size,0,none⟩) 0 0) 0 [] rfl OO.out (some p) s.length cs (an s) rfl GN.out (gL _) (by unfold maxLen;omega) (by omega) (by simp) ?_;intro v W3 aV aE Jn;rw[Nat.zero_add,List.nil_append] at aV;have O3:=aa aV;have G3:Hid (Gr w W3):=aa (((gfl w).alloc _).grown aE (fun k e=>(OO.out.lt k e).1));clear aV aE Jn)
   |fail)
  go_ret;obtain⟨a,c,rfl,h⟩:=sV O3.out HW.out;exact⟨a,c,rfl,h,G3.out⟩
theorem Gf{W3:World}{s:List Int}{a3:Option Addr}{c3:Nat}(h:ag 1 RI W3 a3 s):ag 1 nP (W3.alloc (.cells #[.slice a3 s.length c3] 22)) (some ⟨W3.heap.size,0,none⟩) [s]:=by
 intro k hk;have k0:k=0:=by simpa using hk
 subst k0;refine⟨W3.heap.size,0,rfl,a3,c3,?_,h.giI ((gfl _).alloc _)⟩;simp
theorem CQ(n:Nat)(s:List Int)(al aS ap:Option Addr)(cl cs cp:Nat)(w:World)(hs:ag 1 RI w aS s)(hl:s.length<=1000000):
  Calls Tryz.prog 54 #[.slice al n cl,.slice aS s.length cs,.slice ap 0 cp] w (Gl w [s] 0):=by
 have CL:=aa (Qs s aS cs w hs hl);clear hs;go_enter Tryz.func54,Tryz.ntmps54;go_wp2_with fail;refine CL.out.mono ?_;rintro e W3 ⟨a3,c3,rfl,h3,cG⟩;have S3:=aa h3;have G3:=aa cG;clear h3 cG;go_wp2_with fail;refine wp_loop_rounds 1 ?_;rw[rounds_succ];go_wp2_with fail;go_ret2;exact⟨_,1,rfl,Gf S3.out,G3.out.alloc _⟩
theorem Ok{w w':World}{l:List Clk}{s:List Int}{ps:List (Int×Int)}{e:Ending}(hc:bA l=0)(aZ:aI l s)(hw:∀p∈ps,xJ l p)(h:Hf w s ps e w'):Gl w (bK s ps) 0 e w':=by
 obtain⟨os,a,c,rfl,hp,ho,hi,hg⟩:=h;have hl:os.length=ps.length+1:=by have:=congrArg List.length hp;rwa [List.length_map,cQ] at this
 refine⟨a,c,by rw[cQ],?_,hg⟩;rw[<-hl,aZ.1] at ho;have:=Ww hc ho (fun o q=>hi o q) (fun x hx=>by
  have hx':x∈bK s ps:=by rw[<-hp];exact hx
  obtain⟨i,hi,rfl⟩:=List.mem_iff_getElem.1 hx';exact Dy ps aZ hw i hi)
 rw[<-hp];exact this
theorem CJ(l:List Clk)(ms:List Lmt)(f t:List Int)(al am af at' ap:Option Addr)(cl cf cp:Nat)(w:World)(h:qO w l ms f t al am af at')(hf:f.length<=1000000)(hp:ag 3 RWc w ap (plW l ms f t)):
  Calls Tryz.prog 54 #[.slice al l.length cl,.slice af f.length cf,.slice ap (plW l ms f t).length cp] w (Gl w (bK f (plW l ms f t)) 0):=by
 cases hq:plW l ms f t with
 |nil=>exact CQ l.length f al af ap cl cf cp w h.sf hf
 |cons p ps=>
  have h0:ju l ms f t=0:=Classical.byContradiction fun q=>by rw[VA q] at hq;cases hq
  obtain⟨lo,fo,tO,fc,tc⟩:=sQ h0;have hc:=(h.env lo).chk;obtain⟨hw,hl⟩:=At (l:=l) (ms:=ms) (f:=f) (t:=t) hc;rw[hq] at hw hl hp;obtain⟨u,v, -,hu, -⟩:=hw p (by simp);exact(Fd l f (p::ps) al af ap cl cf cp w h.clks h.sf hp hc fo hw (by omega) hl).mono fun e w' q=>Ok hc fo hw q
end
section
open Go.RowKit
end
section
open Go.RowKit
open Classical
theorem UX{w:World}{B T T2:Nat}{xs ys:List Value}(h:Row w B T xs)(k:Row w B T2 ys):xs=ys:=by unfold Row at h k;rw[h] at k;have:=Option.some.inj k;injection this with e1 _;simpa using e1
def md2F(wb wr:World)(b n B3:Nat)(vp:Value)(cl:Nat)(al:Option Addr)(us:List Value)(ts:List CT)(io kD kE jq kj kr ik eM fw fg:Value)(d:Array Bool)(w:World):Prop:=
 (Mv b n wb w/\∃u v,Row w B3 34 ([.slice al ts.length cl,vp,u,v]++us))/\(d.getD 0 false=true->io= .pointer (some ⟨b,0,none⟩))/\
 (d.getD 1 false=true->kD= .pointer (some ⟨B3,0,none⟩))/\
 (d.getD 2 false=true->kE= .slice al ts.length cl)/\
 (d.getD 3 false=true->(∃xs,w.ownsRow (B3+1) 3 1 jq (clks ts).length (an xs)/\aI (clks ts) xs))/\
 (d.getD 4 false=true->kj= .pointer (some ⟨b,0,none⟩))/\
 (d.getD 5 false=true->kr= .pointer (some ⟨B3,0,none⟩))/\
 (d.getD 6 false=true->ik= .slice al ts.length cl)/\
 (d.getD 7 false=true->(∃xs,w.ownsRow (B3+1) 3 1 eM (clks ts).length (an xs)/\aI (clks ts) xs))/\
 (d.getD 8 false=true->fw= .pointer (some ⟨B3,2,none⟩))/\
 (d.getD 9 false=true->(d.getD 3 false=true/\∃v,Row w B3 34 ([.slice al ts.length cl,vp,jq,v]++us)))/\
 (d.getD 10 false=true->fg= .pointer (some ⟨B3,3,none⟩))/\
 (d.getD 11 false=true->(d.getD 7 false=true/\∃u,Row w B3 34 ([.slice al ts.length cl,vp,u,eM]++us)))
def qR(b B3:Nat)(io kD kE jq kj kr ik eM fw fg s1 s2 s4 s5 s6 s7 s8 s9 fQ dR ei cI cJ dc dg dk di cK de dQ dI eI ec dP dL dE dJ dK dO dM dN eg eY eT eV eF eN fG fH fJ fL gK gi gd eZ gY g9 ii hO g7 gZ g8 gV gT gS jf iQ iX ja jh jF jE jD iO iT je iP i9 iV ji iS jg iZ jd i8 i7 iM iU iY iW iN i6 jG jA jH jy jz j8 gU ia ic ie gW gX ig iI iD mt mx mE mD mp rT rY pI oT oW oP pD pZ qb oM oY pn oI pN oQ pR pG pL oR pJ oH pq oB pT pA oS qf pi p6 qi pF oX pp pB oG p7 pO pf pj pU pP pd pH pK vK vg vo wv vS wu vq vb vu uL uM vX vO vY uQ uY vD uX vC vZ vR uK uP wC vy:Value):Act:={tmps:= #[.pointer (some ⟨b,0,none⟩),s1,s2,.pointer (some ⟨B3,0,none⟩),s4,s5,s6,s7,s8,s9,fQ,dR,ei,cI,cJ,dc,dg,dk,di,cK,de,dQ,dI,io,kD,kE,jq,kj,kr,ik,eM,fw,fg,eI,ec,dP,dL,dE,dJ,dK,dO,dM,dN,eg,eY,eT,eV,eF,eN,fG,fH,fJ,fL,gK,gi,gd,eZ,gY,g9,ii,hO,g7,gZ,g8,gV,gT,gS,jf,iQ,iX,ja,jh,jF,jE,jD,iO,iT,je,iP,i9,iV,ji,iS,jg,iZ,jd,i8,i7,iM,iU,iY,iW,iN,i6,jG,jA,jH,jy,jz,j8,gU,ia,ic,ie,gW,gX,ig,iI,iD,mt,mx,mE,mD,mp,rT,rY,pI,oT,oW,oP,pD,pZ,qb,oM,oY,pn,oI,pN,oQ,pR,pG,pL,oR,pJ,oH,pq,oB,pT,pA,oS,qf,pi,p6,qi,pF,oX,pp,pB,oG,p7,pO,pf,pj,pU,pP,pd,pH,pK,vK,vg,vo,wv,vS,wu,vq,vb,vu,uL,uM,vX,vO,vY,uQ,uY,vD,uX,vC,vZ,vR,uK,uP,wC,vy],defers:= []}
theorem md2{Q:Exit->Act->World->Prop}{wb wr:World}{b n B3:Nat}{vp:Value}{cl:Nat}{al:Option Addr}{us:List Value}{ts:List CT}{s1 s2 s4 s5 s6 s7 s8 s9 fQ dR ei cI cJ dc dg dk di cK de dQ dI eG dB dD dv dC du eH eQ eW eO eI ec dP dL dE dJ dK dO dM dN eg eY eT eV eF eN fG fH fJ fL gK gi gd eZ gY g9 ii hO g7 gZ g8 gV gT gS jf iQ iX ja jh jF jE jD iO iT je iP i9 iV ji iS jg iZ jd i8 i7 iM iU iY iW iN i6 jG jA jH jy jz j8 gU ia ic ie gW gX ig iI iD mt mx mE mD mp rT rY pI oT oW oP pD pZ qb oM oY pn oI pN oQ pR pG pL oR pJ oH pq oB pT pA oS qf pi p6 qi pF oX pp pB oG p7 pO pf pj pU pP pd pH pK vK vg vo wv vS wu vq vb vu uL uM vX vO vY uQ uY vD uX vC vZ vR uK uP wC vy:Value}{base:Nat}(TP0:Tp wb b n)(vP:b<wb.heap.size)(AH:b<base)(hB3:wb.heap.size<=B3)(jx:Mv b n wb wr)(hr0:Row wr B3 34 ([.slice al ts.length cl,vp,.slice none 0 0,.slice none 0 0]++us))(hO0:wb.ownsRow base 130 5 (.slice al ts.length cl) ts.length (ts.flatMap iE))(hC0:dF base wb ts)(hl16:ts.length<=16)(zF:∀c∈clks ts,1<=c.choices.length)
  (h:∀io kD kE jq kj kr ik eM fw fg xs ys wx,Mv b n wb wx->Row wx B3 34 ([.slice al ts.length cl,vp,jq,eM]++us)->wx.ownsRow (B3+1) 3 1 jq (clks ts).length (an xs)->aI (clks ts) xs->wx.ownsRow (B3+1) 3 1 eM (clks ts).length (an ys)->aI (clks ts) ys->Q .normal (qR b B3 io kD kE jq kj kr ik eM fw fg s1 s2 s4 s5 s6 s7 s8 s9 fQ dR ei cI cJ dc dg dk di cK de dQ dI eI ec dP dL dE dJ dK dO dM dN eg eY eT eV eF eN fG fH fJ fL gK gi gd eZ gY g9 ii hO g7 gZ g8 gV gT gS jf iQ iX ja jh jF jE jD iO iT je iP i9 iV ji iS jg iZ jd i8 i7 iM iU iY iW iN i6 jG jA jH jy jz j8 gU ia ic ie gW gX ig iI iD mt mx mE mD mp rT rY pI oT oW oP pD pZ qb oM oY pn oI pN oQ pR pG pL oR pJ oH pq oB pT pA oS qf pi p6 qi pF oX pp pB oG p7 pO pf pj pU pP pd pH pK vK vg vo wv vS wu vq vb vu uL uM vX vO vY uQ uY vD uX vC vZ vR uK uP wC vy) wx):
  (Code.region 2 (fr 2 Tryz.f10) true).wp Tryz.prog Q {tmps:= #[.pointer (some ⟨b,0,none⟩),s1,s2,.pointer (some ⟨B3,0,none⟩),s4,s5,s6,s7,s8,s9,fQ,dR,ei,cI,cJ,dc,dg,dk,di,cK,de,dQ,dI,eG,dB,dD,dv,dC,du,eH,eQ,eW,eO,eI,ec,dP,dL,dE,dJ,dK,dO,dM,dN,eg,eY,eT,eV,eF,eN,fG,fH,fJ,fL,gK,gi,gd,eZ,gY,g9,ii,hO,g7,gZ,g8,gV,gT,gS,jf,iQ,iX,ja,jh,jF,jE,jD,iO,iT,je,iP,i9,iV,ji,iS,jg,iZ,jd,i8,i7,iM,iU,iY,iW,iN,i6,jG,jA,jH,jy,jz,j8,gU,ia,ic,ie,gW,gX,ig,iI,iD,mt,mx,mE,mD,mp,rT,rY,pI,oT,oW,oP,pD,pZ,qb,oM,oY,pn,oI,pN,oQ,pR,pG,pL,oR,pJ,oH,pq,oB,pT,pA,oS,qf,pi,p6,qi,pF,oX,pp,pB,oG,p7,pO,pf,pj,pU,pP,pd,pH,pK,vK,vg,vo,wv,vS,wu,vq,vb,vu,uL,uM,vX,vO,vY,uQ,uY,vD,uX,vC,vZ,vR,uK,uP,wC,vy],defers:= []} wr:=by
 have TP:=PLift.up TP0;have O0:=PLift.up hO0;have C0:=PLift.up hC0;clear hO0 hC0 TP0;simp only[fr,Tryz.f10,gM,Option.bind_some,Option.getD_some,Nat.beq,cond_true,cond_false];refine dW (fun done a w=>∃io kD kE jq kj kr ik eM fw fg,a=qR b B3 io kD kE jq kj kr ik eM fw fg s1 s2 s4 s5 s6 s7 s8 s9 fQ dR ei cI cJ dc dg dk di cK de dQ dI eI ec dP dL dE dJ dK dO dM dN eg eY eT eV eF eN fG fH fJ fL gK gi gd eZ gY g9 ii hO g7 gZ g8 gV gT gS jf iQ iX ja jh jF jE jD iO iT je iP i9 iV ji iS jg iZ jd i8 i7 iM iU iY iW iN i6 jG jA jH jy jz j8 gU ia ic ie gW gX ig iI iD mt mx mE mD mp rT rY pI oT oW oP pD pZ qb oM oY pn oI pN oQ pR pG pL oR pJ oH pq oB pT pA oS qf pi p6 qi pF oX pp pB oG p7 pO pf pj pU pP pd pH pK vK vg vo wv vS wu vq vb vu uL uM vX vO vY uQ uY vD uX vC vZ vR uK uP wC vy/\md2F wb wr b n B3 vp cl al us ts io kD kE jq kj kr ik eM fw fg done w) (by kernel_rfl) (by kernel_rfl) ?_ ⟨?_,?_,?_,?_,?_,?_,?_,?_,?_,?_,?_,?_,trivial⟩ ?_
 ·exact⟨eG,dB,dD,dv,dC,du,eH,eQ,eW,eO,rfl,⟨jx.gr (gfl _).drew,_,_,hr0.gr (gfl _).drew⟩,fun q=>absurd q (by decide),fun q=>absurd q (by decide),fun q=>absurd q (by decide),fun q=>absurd q (by decide),fun q=>absurd q (by decide),fun q=>absurd q (by decide),fun q=>absurd q (by decide),fun q=>absurd q (by decide),fun q=>absurd q (by decide),fun q=>absurd q (by decide),fun q=>absurd q (by decide),fun q=>absurd q (by decide)⟩
 rotate_right
 ·rintro done a w aH ⟨io,kD,kE,jq,kj,kr,ik,eM,fw,fg,rfl,gw,f0,f1,f2,f3,f4,f5,f6,f7,f8,f9,f10,dV⟩;obtain⟨xs,q1,q2⟩:=f3 (aH 3 (by decide));obtain⟨ys,q3,q4⟩:=f7 (aH 7 (by decide));obtain⟨_,v,r1⟩:=f9 (aH 9 (by decide));obtain⟨_,u,r2⟩:=dV (aH 11 (by decide));have er:([.slice al ts.length cl,vp,jq,v]++us)=([.slice al ts.length cl,vp,u,eM]++us):=UX r1 r2;simp at er;obtain⟨rfl,rfl⟩:=er;exact h _ _ _ _ _ _ _ _ _ _ xs ys w gw.1 r1 q1 q2 q3 q4
 all_goals(rintro done a w iB fD aO ⟨io,kD,kE,jq,kj,kr,ik,eM,fw,fg,rfl,gw,f0,f1,f2,f3,f4,f5,f6,f7,f8,f9,f10,dV⟩ K hK;have hn:=nd fD;have HK:=PLift.up hK;clear hK)
 ·simp only[qR];go_simp;have gg:=gfl w;refine HK.down _ _ ⟨_,_,_,_,_,_,_,_,_,_,rfl,gw,fun _=>rfl,kp f1,kp f2,kp f3,kp f4,kp f5,kp f6,kp f7,kp f8,ku f9,kp f10,ku dV⟩
 ·simp only[qR];go_simp;have gg:=gfl w;refine HK.down _ _ ⟨_,_,_,_,_,_,_,_,_,_,rfl,gw,kp f0,fun _=>rfl,kp f2,kp f3,kp f4,kp f5,kp f6,kp f7,kp f8,ku f9,kp f10,ku dV⟩
 ·have d1:=aO 1 (by kernel_rfl);obtain rfl:=f1 d1;obtain⟨u0,v0,hr⟩:=gw.2;have c0:=hr.cell 0 (by simp);have ch:=hr.has;simp only[List.cons_append,List.getElem_cons_zero] at c0;clear hr;clear d1;simp only[qR];go_simp;have gg:=gfl w;refine HK.down _ _ ⟨_,_,_,_,_,_,_,_,_,_,rfl,gw,kp f0,kp f1,fun _=>rfl,kp f3,kp f4,kp f5,kp f6,kp f7,kp f8,ku f9,kp f10,ku dV⟩
 ·have d0:=aO 0 (by kernel_rfl);have d2:=aO 2 (by kernel_rfl);obtain rfl:=f0 d0;obtain rfl:=f2 d2;obtain⟨u0,v0,hr⟩:=gw.2;have HR:=PLift.up hr;have TW:=PLift.up (gw.1.tp TP.down);have HO:=PLift.up (gw.1.owns O0.down AH);have HC:=PLift.up (dF.mv C0.down gw.1 AH);clear hr;clear d0 d2;simp only[qR];go_simp;refine(xk w b n base cl al ts TW.down AH HO.down HC.down hl16 zF).mono ?_;rintro e w2 ⟨xs,v,rfl,aV,aZ,hm⟩
  (try go_simp)
  have b3w:B3<w.heap.size:=HR.down.has;refine HK.down _ _ ⟨_,_,_,_,_,_,_,_,_,_,rfl,⟨gw.1.trans vP hm,u0,v0,hm.row HR.down (by omega)⟩,kp f0,kp f1,kp f2,?_,kp f4,kp f5,kp f6,fun q=>(let⟨xs,h1,h2⟩:=f7 (aj q (by decide));⟨xs,hm.owns h1 (by omega),h2⟩),kp f8,fun q=>absurd (f9 (aj q (by decide))).1 hn,kp f10,fun q=>(let⟨h0,v,h1⟩:=dV (aj q (by decide));⟨getD_set_true h0,v,hm.row h1 (by omega)⟩)⟩;exact fun _=>⟨xs,jS aV (by omega),aZ⟩
 ·simp only[qR];go_simp;have gg:=gfl w;refine HK.down _ _ ⟨_,_,_,_,_,_,_,_,_,_,rfl,gw,kp f0,kp f1,kp f2,kp f3,fun _=>rfl,kp f5,kp f6,kp f7,kp f8,ku f9,kp f10,ku dV⟩
 ·simp only[qR];go_simp;have gg:=gfl w;refine HK.down _ _ ⟨_,_,_,_,_,_,_,_,_,_,rfl,gw,kp f0,kp f1,kp f2,kp f3,kp f4,fun _=>rfl,kp f6,kp f7,kp f8,ku f9,kp f10,ku dV⟩
 ·have d5:=aO 5 (by kernel_rfl);obtain rfl:=f5 d5;obtain⟨u0,v0,hr⟩:=gw.2;have c0:=hr.cell 0 (by simp);have ch:=hr.has;simp only[List.cons_append,List.getElem_cons_zero] at c0;clear hr;clear d5;simp only[qR];go_simp;have gg:=gfl w;refine HK.down _ _ ⟨_,_,_,_,_,_,_,_,_,_,rfl,gw,kp f0,kp f1,kp f2,kp f3,kp f4,kp f5,fun _=>rfl,kp f7,kp f8,ku f9,kp f10,ku dV⟩
 ·have d4:=aO 4 (by kernel_rfl);have d6:=aO 6 (by kernel_rfl);obtain rfl:=f4 d4;obtain rfl:=f6 d6;obtain⟨u0,v0,hr⟩:=gw.2;have HR:=PLift.up hr;have TW:=PLift.up (gw.1.tp TP.down);have HO:=PLift.up (gw.1.owns O0.down AH);have HC:=PLift.up (dF.mv C0.down gw.1 AH);clear hr;clear d4 d6;simp only[qR];go_simp;refine(xk w b n base cl al ts TW.down AH HO.down HC.down hl16 zF).mono ?_;rintro e w2 ⟨xs,v,rfl,aV,aZ,hm⟩
  (try go_simp)
  have b3w:B3<w.heap.size:=HR.down.has;refine HK.down _ _ ⟨_,_,_,_,_,_,_,_,_,_,rfl,⟨gw.1.trans vP hm,u0,v0,hm.row HR.down (by omega)⟩,kp f0,kp f1,kp f2,fun q=>(let⟨xs,h1,h2⟩:=f3 (aj q (by decide));⟨xs,hm.owns h1 (by omega),h2⟩),kp f4,kp f5,kp f6,?_,kp f8,fun q=>(let⟨h0,v,h1⟩:=f9 (aj q (by decide));⟨getD_set_true h0,v,hm.row h1 (by omega)⟩),kp f10,fun q=>absurd (dV (aj q (by decide))).1 hn⟩;exact fun _=>⟨xs,jS aV (by omega),aZ⟩
 ·simp only[qR];go_simp;have gg:=gfl w;refine HK.down _ _ ⟨_,_,_,_,_,_,_,_,_,_,rfl,gw,kp f0,kp f1,kp f2,kp f3,kp f4,kp f5,kp f6,kp f7,fun _=>rfl,ku f9,kp f10,ku dV⟩
 ·have d3:=aO 3 (by kernel_rfl);have d8:=aO 8 (by kernel_rfl);obtain rfl:=f8 d8;obtain⟨xs9,ze,Eo⟩:=f3 d3;obtain⟨a9,c9,rfl⟩:=be ze;have H9:=PLift.up (And.intro ze Eo);clear ze Eo;obtain⟨u0,v0,hr⟩:=gw.2;have HR:=PLift.up hr;have c0:=hr.cell 2 (by simp);have ch:=hr.has;have cf:=hr.free 2;clear hr;clear d8;simp only[qR];go_simp;refine HK.down _ _ ⟨_,_,_,_,_,_,_,_,_,_,rfl,⟨gw.1.setc hB3,(.slice a9 (clks ts).length c9),v0,(show Row (w.setCell ⟨B3,2,none⟩ (.slice a9 (clks ts).length c9)) B3 34 ([.slice al ts.length cl,vp,(.slice a9 (clks ts).length c9),v0]++us) from HR.down.set 2 (.slice a9 (clks ts).length c9))⟩,kp f0,kp f1,kp f2,fun q=>(let⟨xs,h1,h2⟩:=f3 (aj q (by decide));⟨xs,ownsRow_setCell_below h1 (a:=⟨B3,2,none⟩) (Nat.lt_succ_self B3) (.slice a9 (clks ts).length c9),h2⟩),kp f4,kp f5,kp f6,fun q=>(let⟨xs,h1,h2⟩:=f7 (aj q (by decide));⟨xs,ownsRow_setCell_below h1 (a:=⟨B3,2,none⟩) (Nat.lt_succ_self B3) (.slice a9 (clks ts).length c9),h2⟩),kp f8,?_,kp f10,fun q=>(let⟨h0,u,h1⟩:=dV (aj q (by decide));⟨getD_set_true h0,(.slice a9 (clks ts).length c9),(show Row (w.setCell ⟨B3,2,none⟩ (.slice a9 (clks ts).length c9)) B3 34 ([.slice al ts.length cl,vp,(.slice a9 (clks ts).length c9),eM]++us) from h1.set 2 (.slice a9 (clks ts).length c9))⟩)⟩;exact fun _=>⟨getD_set_true d3,v0,(show Row (w.setCell ⟨B3,2,none⟩ (.slice a9 (clks ts).length c9)) B3 34 ([.slice al ts.length cl,vp,(.slice a9 (clks ts).length c9),v0]++us) from HR.down.set 2 (.slice a9 (clks ts).length c9))⟩
 ·simp only[qR];go_simp;have gg:=gfl w;refine HK.down _ _ ⟨_,_,_,_,_,_,_,_,_,_,rfl,gw,kp f0,kp f1,kp f2,kp f3,kp f4,kp f5,kp f6,kp f7,kp f8,ku f9,fun _=>rfl,ku dV⟩
 have d7:=aO 7 (by kernel_rfl);have GP:=aO 10 (by kernel_rfl);obtain rfl:=f10 GP;obtain⟨xs9,ze,Eo⟩:=f7 d7;obtain⟨a9,c9,rfl⟩:=be ze;have H9:=PLift.up (And.intro ze Eo);clear ze Eo;obtain⟨u0,v0,hr⟩:=gw.2;have HR:=PLift.up hr;have c0:=hr.cell 3 (by simp);have ch:=hr.has;have cf:=hr.free 3;clear hr;clear GP;simp only[qR];go_simp;refine HK.down _ _ ⟨_,_,_,_,_,_,_,_,_,_,rfl,⟨gw.1.setc hB3,u0,(.slice a9 (clks ts).length c9),(show Row (w.setCell ⟨B3,3,none⟩ (.slice a9 (clks ts).length c9)) B3 34 ([.slice al ts.length cl,vp,u0,(.slice a9 (clks ts).length c9)]++us) from HR.down.set 3 (.slice a9 (clks ts).length c9))⟩,kp f0,kp f1,kp f2,fun q=>(let⟨xs,h1,h2⟩:=f3 (aj q (by decide));⟨xs,ownsRow_setCell_below h1 (a:=⟨B3,3,none⟩) (Nat.lt_succ_self B3) (.slice a9 (clks ts).length c9),h2⟩),kp f4,kp f5,kp f6,fun q=>(let⟨xs,h1,h2⟩:=f7 (aj q (by decide));⟨xs,ownsRow_setCell_below h1 (a:=⟨B3,3,none⟩) (Nat.lt_succ_self B3) (.slice a9 (clks ts).length c9),h2⟩),kp f8,fun q=>(let⟨h0,u,h1⟩:=f9 (aj q (by decide));⟨getD_set_true h0,(.slice a9 (clks ts).length c9),(show Row (w.setCell ⟨B3,3,none⟩ (.slice a9 (clks ts).length c9)) B3 34 ([.slice al ts.length cl,vp,jq,(.slice a9 (clks ts).length c9)]++us) from h1.set 3 (.slice a9 (clks ts).length c9))⟩),kp f10,?_⟩;exact fun _=>⟨getD_set_true d7,u0,(show Row (w.setCell ⟨B3,3,none⟩ (.slice a9 (clks ts).length c9)) B3 34 ([.slice al ts.length cl,vp,u0,(.slice a9 (clks ts).length c9)]++us) from HR.down.set 3 (.slice a9 (clks ts).length c9))⟩
end
end Go.Proofs.YtlmhkjdkcoiioaaGreatDoor
