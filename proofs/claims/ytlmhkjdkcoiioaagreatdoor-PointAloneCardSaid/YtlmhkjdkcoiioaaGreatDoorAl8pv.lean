/- Lemmas and contracts for the proof of PointAlone (several texts in one, printed by wip/tools/pack.py): ZRmpA ZRmpB ZRmpC ZRmpD ZRmpE ZPlA. -/
import Derived.Test.YtlmhkjdkcoiioaaGreatDoorAl8pu
import Derived.Test.YtlmhkjdkcoiioaaGreatDoorAl8pa
import Derived.Test.YtlmhkjdkcoiioaaGreatDoorAl8pb
import Derived.Maps.AppendAt
set_option maxRecDepth 100000
set_option maxHeartbeats 16000000
set_option linter.unusedVariables false
set_option linter.unusedSimpArgs false
namespace Go.Proofs.YtlmhkjdkcoiioaaGreatDoor
section
open Go.RowKit
open Classical
theorem Px(vs:List Bool)(ao:Option Addr)(cap:Nat)(w:World)(h:ag 1 RB w ao vs)(hf:Fit vs.length):
  Calls Tryz.prog 170 #[.slice ao vs.length cap] w (Da w 4 (bg vs)):=by
 unfold Fit at hf;have H:=aa h;clear h;obtain⟨i0,hi,dt,da,cN⟩:=info_parts pe;cases ao with
 |none=>have:=Gm H.out;subst this;have he:∀w:World,(binOp .eql 27 (.slice none 0 cap) (.slice none 0 0)).run Tryz.prog w= .ok (.bool true) w:=fun _=>rfl;simp only[List.length_nil];go_enter Tryz.func170,Tryz.ntmps170;go_wp2_with fail;go_ret;exact⟨none,0,rfl,Nat.le_refl _,.inl rfl,gfl _⟩
 |some a=>obtain⟨b,o,s⟩:=a;have he:∀w:World,(binOp .eql 27 (.slice (some ⟨b,o,s⟩) vs.length cap) (.slice none 0 0)).run Tryz.prog w= .ok (.bool false) w:=fun _=>rfl;go_enter Tryz.func170,Tryz.ntmps170;go_wp2_with (at_builtin;refine wpList_append_own _ rfl _ _ 27 rfl w.heap.size 4 i0 (.bool false) 1 1 Tryz.underlying27 hi dt da cN rfl (by decide) _ 0 [] rfl (World.ownsRow_made w #[] 0 (Nat.le_refl _) (by simp) rfl) ⟨b,o,s⟩ vs.length cap (bg vs) rfl (by simp[bg]) (AB (H.out.giB ((gfl _).alloc _))) (Sy vs) (by unfold maxLen;omega) (by omega) (by simp) ?_;intro v' w1 bI aE eJ);obtain⟨a,c,rfl,hc,ho⟩:=fX bI;rw[Nat.zero_add] at hc ⊢;rw[List.nil_append] at ho;go_ret;exact⟨a,c,by rw[AD];rfl,by rw[AD];exact hc,ho,((gfl w).alloc _).grown aE (fun k e=>by cases e;exact Nat.le_refl _)⟩
theorem Pc(vs:List Int)(ao:Option Addr)(cap:Nat)(w:World)(h:ag 1 RI w ao vs)(hf:vs.length<=1000000):
  Calls Tryz.prog 120 #[.slice ao vs.length cap] w (Da w 3 (an vs)):=by
 have H:=aa h;clear h;obtain⟨i0,hi,dt,da,cN⟩:=info_parts eS;cases ao with
 |none=>have:=Gm H.out;subst this;have he:∀w:World,(binOp .eql 22 (.slice none 0 cap) (.slice none 0 0)).run Tryz.prog w= .ok (.bool true) w:=fun _=>rfl;simp only[List.length_nil];go_enter Tryz.func120,Tryz.ntmps120;go_wp2_with fail;go_ret;exact⟨none,0,rfl,Nat.le_refl _,.inl rfl,gfl _⟩
 |some a=>obtain⟨b,o,s⟩:=a;have he:∀w:World,(binOp .eql 22 (.slice (some ⟨b,o,s⟩) vs.length cap) (.slice none 0 0)).run Tryz.prog w= .ok (.bool false) w:=fun _=>rfl;go_enter Tryz.func120,Tryz.ntmps120;go_wp2_with (at_builtin;refine wpList_append_own _ rfl _ _ 22 rfl w.heap.size 3 i0 (.int .i64 0) 1 8 Tryz.underlying22 hi dt da cN rfl (by decide) _ 0 [] rfl (World.ownsRow_made w #[] 0 (Nat.le_refl _) (by simp) rfl) ⟨b,o,s⟩ vs.length cap (an vs) rfl (by simp[an]) (rA (H.out.giI ((gfl _).alloc _))) (gL vs) (by unfold maxLen;omega) (by omega) (by simp) ?_;intro v' w1 bI aE eJ);obtain⟨a,c,rfl,hc,ho⟩:=fX bI;rw[Nat.zero_add] at hc ⊢;rw[List.nil_append] at ho;go_ret;exact⟨a,c,by rw[dp];rfl,by rw[dp];exact hc,ho,((gfl w).alloc _).grown aE (fun k e=>by cases e;exact Nat.le_refl _)⟩
theorem VO(W:World)(o o':Obj)(O:Array Obj)(d d' k:Nat)(hk:k≠W.heap.size):(xt (W.alloc o) O d).heap[k]?=(xt (W.alloc o') O d').heap[k]?:=by simp only[xt,World.alloc,Array.getElem?_append,Array.size_push,Array.getElem?_push,hk,if_false]
theorem bd.swap{W:World}{o o':Obj}{O:Array Obj}{d d' B T:Nat}{vs:List Value}(h:bd (YtlmhkjdkcoiioaaGreatDoor.xt (W.alloc o) O d) B T vs)(hb:B≠W.heap.size):bd (YtlmhkjdkcoiioaaGreatDoor.xt (W.alloc o') O d') B T vs:=by obtain⟨r,h⟩:=h;exact⟨r,(VO W o' o O d' d B hb).trans h⟩
theorem bt.swap{base:Nat}{W:World}{o o':Obj}{O:Array Obj}{d d' T:Nat}{vs:List Value}{a:Option Addr}(h:bt base (xt (W.alloc o) O d) T vs a)(hb:W.heap.size<base):bt base (xt (W.alloc o') O d') T vs a:=by
 rcases h with h|⟨B,e,hB,h⟩
 ·exact .inl h
 exact .inr ⟨B,e,hB,h.swap (by omega)⟩
def pX(w:World)(r:Rls)(e:Ending)(w':World):Prop:=
 ∃a1 c1 a2 c2,e= .returned (.agg #[.slice a1 r.on.length c1,.slice a2 r.level.length c2])/\r.on.length<=c1/\r.level.length<=c2/\bt w.heap.size w' 4 (bg r.on) a1/\bt w.heap.size w' 3 (an r.level) a2/\Gr w w'
theorem Fv(r:Rls)(a1 a2:Option Addr)(c1 c2:Nat)(w:World)(h1:ag 1 RB w a1 r.on)(h2:ag 1 RI w a2 r.level)(f1:r.on.length<=1000000)(f2:r.level.length<=1000000):
  Calls Tryz.prog 127 #[.agg #[.slice a1 r.on.length c1,.slice a2 r.level.length c2]] w (pX w r):=by
 have H1:=aa h1;have H2:=aa h2;clear h1 h2;go_enter Tryz.func127,Tryz.ntmps127;go_wp2_with fail
 go_region_with (first
  |(go_at_call 170;refine(Px r.on a1 c1 _ (H1.out.giB grr) (by unfold Fit;omega)).mono ?_;rintro e w' ⟨a3,c3,rfl,hc3,ho,O,d,rfl⟩;rw[AD] at hc3 ⊢;have O1:=aa ho;clear ho)
  |(go_at_call 120;refine(Pc r.level a2 c2 _ (H2.out.giI grr) f2).mono ?_;rintro e w' ⟨a4,c4,rfl,hc4,ho,O',d',rfl⟩;rw[dp] at hc4 ⊢;have O2:=aa ho;clear ho))
 all_goals go_wp2_with fail
 all_goals
  refine bodyPost_ret (v:= .agg #[.slice a3 r.on.length c3,.slice a4 r.level.length c4]) ?_ rfl ?_
  ·simp[results,Tryz.results127,go_sem]
  have q1:=O1.out.gr ((gfl _).xt O' d');have q2:=O2.out;simp only[xt_xt,xt_drew] at q1 q2;refine⟨a3,c3,a4,c4,rfl,hc3,hc4,(bt.swap q1 (by simp<;>omega)).low (by simp<;>omega),(bt.swap q2 (by simp<;>omega)).low (by simp<;>omega),grr⟩
theorem N0{w w':World}{ao:Option Addr}{xs:List Rls}(h:ag 2 zd w ao xs)(hg:Gr w w'):ag 2 zd w' ao xs:=h.gr zd.mono hg
theorem JU(q0:Nat)(l:List Rls)(ao:Option Addr)(cap:Nat)(p:Rls->Prop)(w:World)(h:ag 2 zd w ao l)(hf:Fit l.length)(hp:iJ Ay 169 #[.pointer (some ⟨q0,0,none⟩)] l p w):
  Calls Tryz.prog 188 #[.slice ao l.length cap,.func (.func 169) #[] #[.pointer (some ⟨q0,0,none⟩)]] w (mW p l w):=by
 unfold Fit at hf;have H:=aa h;have HP:=aa hp;clear h hp;go_enter Tryz.func188,Tryz.ntmps188;go_wp2;go_loopw [8] (fun i wr=>∃k:Nat,k<=l.length/\i= .int .i64 k/\(∀j (hj:j<k) (lA:j<l.length),¬p l[j])/\Gr w wr) (fun i _=>l.length-(intOf i).toNat);case atStart=>exact⟨0,Nat.zero_le _,rfl,fun j h=>absurd h (by omega),gfl _⟩
 case round=>
  obtain⟨k,hk,rfl,aH,hg⟩:=hrel;have HA:=aa aH;have HG:=aa hg;clear aH hg;by_cases aA:k<l.length
  ·obtain⟨b,o,rfl,⟨a1,k1,c1,c1l,jQ,s1⟩,⟨a2,k2,c2,c2l,mB,s2⟩⟩:=N0 H.out HG.out k aA;have cr:=HP.out wr (.agg #[.slice a1 l[k].on.length k1,.slice a2 l[k].level.length k2]) k aA HG.out ⟨a1,a2,k1,k2,rfl,s1,s2,c1l,jQ,c2l,mB⟩;clear s1 s2 jQ mB;by_cases hq:p l[k]
   ·rw[dtx hq] at cr;have Q:=aa hq;clear hq;go_wp2_with fail;refine cr.mono ?_;rintro e w' ⟨rfl,O,d,rfl⟩;go_wp2_with fail;go_ret;exact⟨_,rfl,.inr ⟨k,aA,rfl,Q.out,fun j hj=>HA.out j hj (by omega)⟩,HG.out.xt _ _⟩
   rw[dfx hq] at cr;have Q:=aa hq;clear hq;go_wp2_with fail;refine cr.mono ?_;rintro e w' ⟨rfl,O,d,rfl⟩;go_wp2_with fail;go_roundw;case rel=>
    refine⟨k+1,by omega,by go_num,fun j hj lA=>?_,HG.out.xt _ _⟩;by_cases e:j=k
    ·subst e;exact Q.out
    exact HA.out j (by omega) lA
   case measure=>simp[intOf];omega
  go_wp2;go_ret;exact⟨_,rfl,.inl ⟨rfl,fun j hj=>HA.out j (by omega) hj⟩,HG.out⟩
theorem DC(q0:Nat)(l:List Rls)(ao:Option Addr)(cap:Nat)(p:Rls->Prop)(w:World)(h:ag 2 zd w ao l)(hf:Fit l.length)(hp:iJ Ay 169 #[.pointer (some ⟨q0,0,none⟩)] l p w):
  Calls Tryz.prog 168 #[.slice ao l.length cap,.func (.func 169) #[] #[.pointer (some ⟨q0,0,none⟩)]] w (aN w (.bool (decide (lE p l)))):=by
 have H:=aa h;have HP:=aa hp;have HF:=aa hf;clear h hp hf;go_enter Tryz.func168,Tryz.ntmps168;go_wp2_with fail;refine(JU q0 l ao cap p _ H.out HF.out HP.out).mono ?_;rintro e w' ⟨x,rfl,hx,O,d,rfl⟩;have X:=aa hx;clear hx;go_wp2_with fail;go_ret;exact⟨ai X.out.any,(gfl _).xt _ _⟩
theorem QB(l:List Sup)(rs:List Rls)(q:Nat)(ao:Option Addr)(cap:Nat)(w:World)(hc:w.cell? ⟨q,0,none⟩=some (.slice ao l.length cap))(h:ag 5 bG w ao l)(hf:Fit l.length):
  iJ Ay 169 #[.pointer (some ⟨q,0,none⟩)] rs (fun r=>¬bL l r) w:=by
 rintro W v k hk hg ⟨a1,a2,c1,c2,rfl,s1,s2,_,f1,_,f2⟩;have uS:=aB hg hc;have hh:=ae uS;have H:=aa (aX h hg);have H1:=aa s1;have H2:=aa s2;clear hc hg h s1 s2;show Calls Tryz.prog 169 #[_,_] W _;generalize rs[k]=r at*;go_enter Tryz.func169,Tryz.ntmps169;go_wp2_with fail;refine(tz l r ao a1 a2 cap c1 c2 _ (aX H.out grr) hf (H1.out.giB grr) (H2.out.giI grr) f1 f2).mono ?_;rintro e w' ⟨rfl,O,dd,rfl⟩;go_wp2_with fail;go_ret;exact⟨ai (by by_cases q:bL l r<;>simp[q]),grr⟩
noncomputable def iL(l:List Sup)(rs:List Rls):Int:=if chk l=0 then(if lE (fun r=>¬bL l r) rs then 1 else 0) else chk l
theorem If{l:List Sup}{rs:List Rls}(h:iL l rs=0):chk l=0/\∀r∈rs,bL l r:=by
 unfold iL at h;split at h
 ·rename_i hc;refine⟨hc,fun r hr=>Classical.byContradiction fun q=>?_⟩;split at h
  ·omega
  rename_i ha;obtain⟨k,hk,e⟩:=List.getElem_of_mem hr;exact ha ⟨k,hk,e▸q⟩
 rename_i hc;exact absurd h hc
theorem Cd{l:List Sup}{rs:List Rls}(hc:chk l=0)(h:∀r∈rs,bL l r):iL l rs=0:=by unfold iL;rw[if_pos hc,if_neg];rintro⟨k,hk,q⟩;exact q (h _ (List.getElem_mem hk))
theorem FE(l:List Sup)(rs:List Rls)(ao a1:Option Addr)(cap c1:Nat)(w:World)(h:ag 5 bG w ao l)(hf:Fit l.length)(h1:ag 2 zd w a1 rs)(f1:Fit rs.length):
  Calls Tryz.prog 125 #[.slice ao l.length cap,.slice a1 rs.length c1] w (aN w (.int .i64 (iL l rs))):=by
 have H:=aa h;have H1:=aa h1;have HF:=aa hf;have HF1:=aa f1;unfold Fit at hf f1;clear h h1;go_enter Tryz.func125,Tryz.ntmps125;go_wp2_with fail;refine(tI l ao cap _ (aX H.out ((gfl _).alloc _)) HF.out).mono ?_;rintro e w' ⟨rfl,O,dd,rfl⟩;by_cases hc:chk l=0
 ·rw[hc];have HC:=aa hc;clear hc;go_wp2_with fail;refine(DC w.heap.size rs a1 c1 _ _ (N0 H1.out grr) HF1.out (QB l rs w.heap.size ao cap _ (by simp[go_sem]) (aX H.out grr) HF.out)).mono ?_;rintro e w' ⟨rfl,O2,dd2,rfl⟩;by_cases ha:lE (fun r=>¬bL l r) rs
  ·rw[dtx ha];have HA:=aa ha;clear ha;go_wp2_with fail;go_ret;exact⟨bO (by rw[iL,if_pos HC.out,if_pos HA.out]),grr⟩
  rw[dfx ha];have HA:=aa ha;clear ha;go_wp2_with fail;go_ret;exact⟨bO (by rw[iL,if_pos HC.out,if_neg HA.out]),grr⟩
 have vz:(chk l !=0)=true:=by simpa using hc
 have HC:=aa hc;clear hc;go_wp2_with fail;go_ret;exact⟨bO (by rw[iL,if_neg HC.out]),grr⟩
def aF(r:Rls)(k:Nat):Int:=r.level.getD k 0
theorem bV{r:Rls}{k:Nat}(h:k<r.level.length):aF r k=r.level[k]:=by simp[aF,h]
def jlv(a b:Rls)(k:Nat):Int:=if aQ a k=true then(if aQ b k=true then(if aF a k<aF b k then aF b k else aF a k) else aF a k) else aF b k
def aT(a b:Rls):Rls:=⟨(List.range b.on.length).map fun k=>aQ a k||aQ b k,(List.range b.level.length).map fun k=>jlv a b k⟩
theorem iH(a b:Rls):(aT a b).on.length=b.on.length:=by simp[aT]
theorem jr(a b:Rls):(aT a b).level.length=b.level.length:=by simp[aT]
theorem UC(a b:Rls)(k:Nat)(h:k<b.on.length):aQ (aT a b) k=(aQ a k||aQ b k):=by simp[aQ,aT,h]
theorem Jk(a b:Rls)(k:Nat)(h:k<b.level.length):aF (aT a b) k=jlv a b k:=by simp[aF,aT,h]
def nO(a b:Rls)(k:Nat)(uo:List Bool)(ul:List Int):Prop:=
 uo.length=b.on.length/\ul.length=b.level.length/\(∀j,j<b.on.length->uo.getD j false=if j<k then(aQ a j||aQ b j) else aQ b j)/\∀j,j<b.level.length->ul.getD j 0=if j<k then jlv a b j else aF b j
theorem nO.start(a b:Rls):nO a b 0 b.on b.level:=⟨rfl,rfl,fun j _=>by simp[aQ],fun j _=>by simp[aF]⟩
theorem nO.done{a b:Rls}{k:Nat}{uo:List Bool}{ul:List Int}(h:nO a b k uo ul)(h1:b.on.length<=k)(h2:b.level.length<=k):uo=(aT a b).on/\ul=(aT a b).level:=by
 obtain⟨e1,e2,e3,e4⟩:=h;constructor
 ·refine List.ext_getElem (by rw[e1,iH]) fun j q1 q2=>?_;have:=e3 j (by omega);rw[if_pos (by omega),List.getD_eq_getElem?_getD,List.getElem?_eq_getElem q1,Option.getD_some] at this;rw[this];simp[aT]
 refine List.ext_getElem (by rw[e2,jr]) fun j q1 q2=>?_;have:=e4 j (by omega);rw[if_pos (by omega),List.getD_eq_getElem?_getD,List.getElem?_eq_getElem q1,Option.getD_some] at this;rw[this];simp[aT]
theorem nO.step{a b:Rls}{k:Nat}{uo:List Bool}{ul:List Int}(h:nO a b k uo ul)(h1:k<b.on.length)(h2:k<b.level.length):nO a b (k+1) (uo.set k (aQ a k||aQ b k)) (ul.set k (jlv a b k)):=by
 obtain⟨e1,e2,e3,e4⟩:=h;refine⟨by simpa using e1,by simpa using e2,fun j hj=>?_,fun j hj=>?_⟩
 ·rw[Dn _ _ _ _ _ (by omega)];by_cases e:j=k
  ·subst e;simp
  rw[if_neg e,e3 j hj];by_cases q:j<k
  ·rw[if_pos q,if_pos (by omega)]
  rw[if_neg q,if_neg (by omega)]
 rw[Dn _ _ _ _ _ (by omega)];by_cases e:j=k
 ·subst e;simp
 rw[if_neg e,e4 j hj];by_cases q:j<k
 ·rw[if_pos q,if_pos (by omega)]
 rw[if_neg q,if_neg (by omega)]
theorem nO.uoAt{a b:Rls}{k:Nat}{uo:List Bool}{ul:List Int}(h:nO a b k uo ul)(h1:k<b.on.length)(hu:k<uo.length):uo[k]=aQ b k:=by have:=h.2.2.1 k h1;rw[if_neg (by omega),List.getD_eq_getElem?_getD,List.getElem?_eq_getElem hu,Option.getD_some] at this;exact this
theorem nO.ulAt{a b:Rls}{k:Nat}{uo:List Bool}{ul:List Int}(h:nO a b k uo ul)(h1:k<b.level.length)(hu:k<ul.length):ul[k]=aF b k:=by have:=h.2.2.2 k h1;rw[if_neg (by omega),List.getD_eq_getElem?_getD,List.getElem?_eq_getElem hu,Option.getD_some] at this;exact this
theorem Jq(a b:Rls)(n:Nat)(a1 a2 a3 a4:Option Addr)(c1 c2 c3 c4:Nat)(w:World)(h1:ag 1 RB w a1 a.on)(h2:ag 1 RI w a2 a.level)(h3:ag 1 RB w a3 b.on)(h4:ag 1 RI w a4 b.level)
  (n1:a.on.length=n) (n2:a.level.length=n) (n3:b.on.length=n) (n4:b.level.length=n) (hn:n<=16):
  Calls Tryz.prog 126 #[.agg #[.slice a1 a.on.length c1,.slice a2 a.level.length c2],.agg #[.slice a3 b.on.length c3,.slice a4 b.level.length c4]] w (pX w (aT a b)):=by
 have H1:=aa h1;have H2:=aa h2;have H3:=aa h3;have H4:=aa h4;clear h1 h2 h3 h4;have N1:=aa n1;have N2:=aa n2;have N3:=aa n3;have N4:=aa n4;have m1:a.on.length<=16:=by omega
 have m2:a.level.length<=16:=by omega
 have m3:b.on.length<=16:=by omega
 have m4:b.level.length<=16:=by omega
 clear n1 n2 n3 n4;go_enter Tryz.func126,Tryz.ntmps126;go_wp2_with fail;refine(Fv b a3 a4 c3 c4 _ (H3.out.giB grr) (H4.out.giI grr) (by omega) (by omega)).mono ?_;rintro e W1 ⟨a5,c5,a6,c6,rfl,hc5,FG,o1,o2,hg⟩;have O1:=aa o1;have O2:=aa o2;have G1:=aa hg;have e0:W1.cell? ⟨w.heap.size,0,none⟩=some (.slice a1 a.on.length c1):=aB hg (by simp[go_sem]);have e1:W1.cell? ⟨w.heap.size,1,none⟩=some (.slice a2 a.level.length c2):=aB hg (by simp[go_sem]);have e2:W1.cell? ⟨w.heap.size+1,0,none⟩=some (.slice a3 b.on.length c3):=aB hg (by simp[go_sem]);have e3:W1.cell? ⟨w.heap.size+1,1,none⟩=some (.slice a4 b.level.length c4):=aB hg (by simp[go_sem]);have E0:=aa e0;have E1:=aa e1;have E2:=aa e2;have E3:=aa e3;have r0:Row W1 (w.heap.size+2) 29 [.slice none 0 0,.slice none 0 0]:=by have:=Row.new ((w.alloc (.cells #[.slice a1 a.on.length c1,.slice a2 a.level.length c2] 29)).alloc (.cells #[.slice a3 b.on.length c3,.slice a4 b.level.length c4] 29)) #[.slice none 0 0,.slice none 0 0] 29;simp only[World.size_alloc] at this;exact this.gr hg
 have R0:=aa r0;have sz:w.heap.size+3<=W1.heap.size:=by have:=hg.size;simpa using this
 clear o1 o2 hg e0 e1 e2 e3 r0;go_wp2_with fail;go_loopw [12] (fun i wr=>∃k:Nat,k<=b.on.length/\i= .int .i64 k/\Gr ((w.alloc (.cells #[.slice a1 a.on.length c1,.slice a2 a.level.length c2] 29)).alloc (.cells #[.slice a3 b.on.length c3,.slice a4 b.level.length c4] 29)) wr/\Row wr (w.heap.size+2) 29 [.slice none 0 0,.slice none 0 0]/\Row wr W1.heap.size 29 [.slice a5 b.on.length c5,.slice a6 b.level.length c6]/\
   ∃uo ul,bt (w.heap.size+3) wr 4 (bg uo) a5/\bt (w.heap.size+3) wr 3 (an ul) a6/\nO a b k uo ul) (fun i _=>b.on.length-(intOf i).toNat)
 case atStart=>
  refine⟨0,Nat.zero_le _,rfl,?_,R0.out.alloc _,Row.new W1 _ _,b.on,b.level,?_,?_,nO.start a b⟩
  ·refine Gr.alloc _ (Gr.trans ?_ G1.out);exact(gfl _).alloc _
  ·exact(O1.out.gr ((gfl _).alloc _)).low (by simp)
  exact(O2.out.gr ((gfl _).alloc _)).low (by simp)
 case round=>
  obtain⟨k,hk,rfl,hg,hr,hb,uo,ul,p1,p2,hinv⟩:=hrel;have HG0:=aa hg;have HG:=aa ((((gfl w).alloc _).alloc _).trans hg);have HR:=aa hr;have HB:=aa hb;have HI:=aa hinv;have P1:=aa p1;have P2:=aa p2;have e0:wr.cell? ⟨w.heap.size,0,none⟩=some (.slice a1 a.on.length c1):=aB hg (by simp[go_sem]);have e1:wr.cell? ⟨w.heap.size,1,none⟩=some (.slice a2 a.level.length c2):=aB hg (by simp[go_sem]);have e2:wr.cell? ⟨w.heap.size+1,0,none⟩=some (.slice a3 b.on.length c3):=aB hg (by simp[go_sem]);have e3:wr.cell? ⟨w.heap.size+1,1,none⟩=some (.slice a4 b.level.length c4):=aB hg (by simp[go_sem]);have b0:=hb.cell 0 (by simp);have b1:=hb.cell 1 (by simp);simp only[List.getElem_cons_zero,List.getElem_cons_succ] at b0 b1;have x0:=ae e0;have x1:=ae e2;have x2:=hb.has;have x3:=hr.has;clear hg hr hb hinv p1 p2;by_cases aA:k<b.on.length
  ·have k1:k<a.on.length:=by have:=N1.out;have:=N3.out;omega
   have k2:k<a.level.length:=by have:=N2.out;have:=N3.out;omega
   have k4:k<b.level.length:=by have:=N4.out;have:=N3.out;omega
   have ku:k<uo.length:=by have:=HI.out.1;omega
   have kl:k<ul.length:=by have:=HI.out.2.1;omega
   obtain⟨B1,rfl,hB1,q1⟩:=P1.out.at (by simp[bg];omega);obtain⟨B2,rfl,hB2,q2⟩:=P2.out.at (by simp[an];omega);have Q1:=aa q1;have Q2:=aa q2;have t1:W1.heap.size≠B1:=HB.out.s.apart q1 (by decide);have t2:W1.heap.size≠B2:=HB.out.s.apart q2 (by decide);have t3:B1≠B2:=q1.apart q2 (by decide);have t1':=Ne.symm t1;have t2':=Ne.symm t2;have t3':=Ne.symm t3;have z1:=q1.has;have z2:=q2.has;have z3:=q1.free k;have z4:=q2.free k;have z5:=q1.bat k ku;have z6:=q2.iat k kl;rw[HI.out.uoAt aA ku] at z5;rw[HI.out.ulAt k4 kl] at z6;clear q1 q2;obtain⟨v1,w1,rfl,s1⟩:=(H1.out.giB HG.out).one k k1;obtain⟨v2,w2,rfl,s2,s2w⟩:=(H2.out.giI HG.out).one k k2;obtain⟨v3,w3,rfl,s3⟩:=(H3.out.giB HG.out).one k aA;obtain⟨v4,w4,rfl,s4,s4w⟩:=(H4.out.giI HG.out).one k k4;unfold RB at s1 s3;rw[<-bT k1] at s1;rw[<-bT aA] at s3;rw[<-bV k2] at s2;rw[<-bV k4] at s4;have y1:=ae s1;have y2:=ae s2;have y3:=ae s3;have y4:=ae s4;have g0:(0:Int)<=k:=by omega
   have g1:(k:Int)<a.on.length:=by omega
   have g2:(k:Int)<a.level.length:=by omega
   have g3:(k:Int)<b.on.length:=by omega
   have g4:(k:Int)<b.level.length:=by omega
   clear s2w s4w;have dU:=aa (HI.out.step aA k4);rcases Bool.eq_false_or_eq_true (aQ a k) with ha|ha
   ·rcases Bool.eq_false_or_eq_true (aQ b k) with hb|hb
    ·have HS:Hid (nO a b (k+1) uo (ul.set k (if aF a k<aF b k then aF b k else aF a k))):=aa (by
      have:=dU.out;rw[show jlv a b k=(if aF a k<aF b k then aF b k else aF a k) by simp[jlv,ha,hb],kG uo k ku _ (by rw[HI.out.uoAt aA ku,ha,hb];rfl)] at this;exact this)
     rw[ha] at s1;rw[hb] at s3;clear ha hb dU z5;go_wp2_with fail;go_region;all_goals go_wp2_with fail
     all_goals go_roundw
     case rel=>
      refine⟨k+1,by omega,by go_num,?_,by repeat(first|with_reducible exact HR.out|with_reducible refine Row.drew ?_|with_reducible refine Row.oth ?_ (by omega)),by repeat(first|with_reducible exact HB.out|with_reducible refine Row.drew ?_|with_reducible refine Row.oth ?_ (by omega)),uo,ul.set k (if aF a k<aF b k then aF b k else aF a k),?_,?_,HS.out⟩
      ·repeat(first|with_reducible exact HG0.out|with_reducible refine Gr.setc (by simp;omega) ?_|with_reducible refine Gr.alloc _ ?_|with_reducible refine Gr.drew ?_)
      ·exact bt.row hB1 (by repeat(first|with_reducible exact Q1.out|with_reducible refine bd.drew ?_|with_reducible refine bd.oth ?_ (by omega)))
      refine bt.row hB2 ?_
      with_reducible refine bd.drew ?_
      exact Q2.out.iset k kl _
     case measure=>simp[intOf];omega
    have HS:Hid (nO a b (k+1) (uo.set k true) (ul.set k (aF a k))):=aa (by have:=dU.out;rw[show jlv a b k=aF a k by simp[jlv,ha,hb],ha] at this;exact this)
    rw[ha] at s1;rw[hb] at s3;clear ha hb dU;go_wp2_with fail;go_region;all_goals go_wp2_with fail
    all_goals go_roundw
    case rel=>
     refine⟨k+1,by omega,by go_num,?_,by repeat(first|with_reducible exact HR.out|with_reducible refine Row.drew ?_|with_reducible refine Row.oth ?_ (by omega)),by repeat(first|with_reducible exact HB.out|with_reducible refine Row.drew ?_|with_reducible refine Row.oth ?_ (by omega)),uo.set k true,ul.set k (aF a k),?_,?_,HS.out⟩
     ·repeat(first|with_reducible exact HG0.out|with_reducible refine Gr.setc (by simp;omega) ?_|with_reducible refine Gr.alloc _ ?_|with_reducible refine Gr.drew ?_)
     ·exact bt.row hB1 (by repeat(first|with_reducible exact Q1.out.bset k ku _|with_reducible refine bd.drew ?_|with_reducible refine bd.oth ?_ (by omega)))
     exact bt.row hB2 (by repeat(first|with_reducible exact Q2.out.iset k kl _|with_reducible refine bd.drew ?_|with_reducible refine bd.oth ?_ (by omega)|with_reducible refine bd.iset ?_ k kl _|with_reducible exact Q2.out))
    case measure=>simp[intOf];omega
   have HS:Hid (nO a b (k+1) uo ul):=aa (by have:=dU.out;rw[show jlv a b k=aF b k by simp[jlv,ha],ha,Bool.false_or,kG uo k ku _ (HI.out.uoAt aA ku),kG ul k kl _ (HI.out.ulAt k4 kl)] at this;exact this)
   rw[ha] at s1;clear ha dU;go_wp2_with fail;go_roundw;case rel=>exact⟨k+1,by omega,by go_num,HG0.out,HR.out,HB.out,uo,ul,P1.out,P2.out,HS.out⟩
   case measure=>simp[intOf];omega
  have hkb:k=b.on.length:=by omega
  subst hkb;obtain⟨d1,d2⟩:=HI.out.done (Nat.le_refl _) (by have:=N3.out;have:=N4.out;omega);have r0:=HR.out.cell 0 (by simp);have r1:=HR.out.cell 1 (by simp);have r2:=HR.out.free 0;have r3:=HR.out.free 1;simp only[List.getElem_cons_zero,List.getElem_cons_succ] at r0 r1;have D1:=aa d1;have D2:=aa d2;clear d1 d2;go_wp2_with fail;refine bodyPost_ret (v:= .agg #[.slice a5 b.on.length c5,.slice a6 b.level.length c6]) ?_ rfl ?_
  ·simp[results,Tryz.results126,go_sem,r0,r1]
  have p1:=P1.out;have p2:=P2.out;rw[D1.out] at p1;rw[D2.out] at p2;refine⟨a5,c5,a6,c6,by rw[iH,jr],by rw[iH];exact hc5,by rw[jr];exact FG,?_,?_,?_⟩
  ·exact((p1.oth (by omega)).oth (by omega)).low (by omega)
  ·exact((p2.oth (by omega)).oth (by omega)).low (by omega)
  repeat(first|with_reducible exact HG.out|with_reducible refine Gr.setc (by omega) ?_)
theorem ya:(Tryz.prog.info? 42).map (fun i=>(i.zero,i.size,i.bytes))=some (some (.agg #[.int .i64 0,.int .i64 0,.int .i64 0]),3,24):=by kernel_rfl
def jM(x:Wri):List Value:= [.int .i64 x.kind,.int .i64 x.unit,.int .i64 x.value]
def ci(ps:List Wri):List Value:=ps.flatMap jM
theorem Py(ps:List Wri)(x:Wri):ci (ps++ [x])=ci ps++jM x:=by simp[ci]
theorem AJ(ps:List Wri):(ci ps).length=ps.length*3:=by
 induction ps with
 |nil=>rfl
 |cons x ps ih=>have:ci (x::ps)=jM x++ci ps:=rfl;rw[this,List.length_append,ih];simp[jM];omega
structure lL(base:Nat)(w:World)(Bw n B1 c1 B2 c2:Nat)(v:Value)(r:Rls)(ps:List Wri):Prop where
 box:Row w Bw 173 [.slice (some ⟨B1,0,none⟩) n c1,.slice (some ⟨B2,0,none⟩) n c2,v]
 on:bd w B1 4 (bg r.on)
 lv:bd w B2 3 (an r.level)
 pl:w.ownsRow base 42 3 v ps.length (ci ps)
 b0:base<=Bw
 b1:base<=B1
 b2:base<=B2
 n1:r.on.length=n
 n2:r.level.length=n
def Sk(W0:World)(Bw n B1 c1 B2 c2:Nat)(s:Rls×List Wri)(e:Ending)(w':World):Prop:=
 ∃x v,e= .returned x/\lL W0.heap.size w' Bw n B1 c1 B2 c2 v s.1 s.2/\Gr W0 w'
noncomputable def gB(s:Rls×List Wri)(k:Nat)(x:Int):Rls×List Wri:=(⟨s.1.on,s.1.level.set k x⟩,if aF s.1 k=x then s.2 else s.2++ [⟨2,k,x⟩])
noncomputable def fT(s:Rls×List Wri)(k:Nat)(b:Bool):Rls×List Wri:=(⟨s.1.on.set k b,s.1.level⟩,if aQ s.1 k=b then s.2 else s.2++ [⟨3,k,if b=true then 1 else 0⟩])
theorem lL.setLv{base:Nat}{w:World}{Bw n B1 c1 B2 c2:Nat}{v:Value}{r:Rls}{ps:List Wri}(h:lL base w Bw n B1 c1 B2 c2 v r ps)(k:Nat)(hk:k<n)(x:Int):lL base (w.setCell ⟨B2,k,none⟩ (.int .i64 x)) Bw n B1 c1 B2 c2 v ⟨r.on,r.level.set k x⟩ ps where
 box:=h.box.oth (h.lv.apart h.box.s (by decide))
 on:=h.on.oth (h.lv.apart h.on (by decide))
 lv:=h.lv.iset k (by have:=h.n2;omega) x
 pl:=l7 h.pl h.lv (by decide)
 b0:=h.b0
 b1:=h.b1
 b2:=h.b2
 n1:=h.n1
 n2:=by simpa using h.n2
theorem lL.setOn{base:Nat}{w:World}{Bw n B1 c1 B2 c2:Nat}{v:Value}{r:Rls}{ps:List Wri}(h:lL base w Bw n B1 c1 B2 c2 v r ps)(k:Nat)(hk:k<n)(x:Bool):lL base (w.setCell ⟨B1,k,none⟩ (.bool x)) Bw n B1 c1 B2 c2 v ⟨r.on.set k x,r.level⟩ ps where
 box:=h.box.oth (h.on.apart h.box.s (by decide))
 on:=h.on.bset k (by have:=h.n1;omega) x
 lv:=h.lv.oth (h.on.apart h.lv (by decide))
 pl:=l7 h.pl h.on (by decide)
 b0:=h.b0
 b1:=h.b1
 b2:=h.b2
 n1:=by simpa using h.n1
 n2:=h.n2
theorem lL.push{base:Nat}{w:World}{Bw n B1 c1 B2 c2:Nat}{v v':Value}{r:Rls}{ps:List Wri}{o:Obj}{w1:World}{p:Wri}(h:lL base w Bw n B1 c1 B2 c2 v r ps)(hg:(w.alloc o).grownBy w1 v.ownBlock)
  (ho:w1.ownsRow base 42 3 v' (ps.length+1) (ci ps++jM p)):Row w1 Bw 173 [.slice (some ⟨B1,0,none⟩) n c1,.slice (some ⟨B2,0,none⟩) n c2,v]/\lL base (w1.setCell ⟨Bw,2,none⟩ v') Bw n B1 c1 B2 c2 v' r (ps++ [p]):=by
 have q0:=(h.box.alloc o).grown hg (aJ h.pl h.box.s (by decide));have q1:=(h.on.alloc o).grown hg (aJ h.pl h.on (by decide));have q2:=(h.lv.alloc o).grown hg (aJ h.pl h.lv (by decide));refine⟨q0,⟨?_,q1.oth (q0.s.apart q1 (by decide)),q2.oth (q0.s.apart q2 (by decide)),?_,h.b0,h.b1,h.b2,h.n1,h.n2⟩⟩
 ·exact q0.set 2 v'
 have:=l7 (o:=2) (x:=v') ho q0.s (by decide);rw[<-Py] at this;simpa using this
theorem lL.gr{W0:World}{w:World}{Bw n B1 c1 B2 c2:Nat}{v:Value}{r:Rls}{ps:List Wri}{o:Obj}{w1:World}(h:lL W0.heap.size w Bw n B1 c1 B2 c2 v r ps)(hw:Gr W0 w)(hg:(w.alloc o).grownBy w1 v.ownBlock):Gr W0 w1:=
 (hw.alloc o).grown hg (fun k e=>(h.pl.lt k e).1)
theorem zb(w:World)(x y z:Value)(t:TypeId):∀j u,[x,y,z][j]?=some u->(w.alloc (.cells #[x,y,z] t)).cell? ((⟨w.heap.size,0,none⟩:Addr).add j)=some u:=by
 intro j u hu;obtain⟨hj,hu⟩:=List.getElem?_eq_some_iff.1 hu;have:(⟨w.heap.size,0,none⟩:Addr).add j=⟨w.heap.size,j,none⟩:=by unfold Addr.add;split<;>simp_all
 rw[this,(Row.new w #[x,y,z] t).cell j hj,<-hu]
theorem CY(p:Wri):∀u∈jM p,u.oneCell'=true:=by intro u hu;simp only[jM,List.mem_cons,List.not_mem_nil,or_false] at hu;rcases hu with rfl|rfl|rfl<;>rfl
theorem Ax(W0:World)(Bw n B1 c1 B2 c2:Nat)(v:Value)(r:Rls)(ps:List Wri)(k:Nat)(x:Int)(w:World)(hk:k<n)(h:lL W0.heap.size w Bw n B1 c1 B2 c2 v r ps)(hg:Gr W0 w)(sw:ps.length<=1000):
  Calls Tryz.prog 128 #[.pointer (some ⟨Bw,0,none⟩),.int .i64 k,.int .i64 x] w (Sk W0 Bw n B1 c1 B2 c2 (gB (r,ps) k x)):=by
 have HH:=aa h;have HG:=aa hg;have e0:=h.box.cell 0 (by simp);have e1:=h.box.cell 1 (by simp);have e2:=h.box.cell 2 (by simp);simp only[List.getElem_cons_zero,List.getElem_cons_succ] at e0 e1 e2;have e3:=h.box.free 2;have gI:k<r.level.length:=by have:=h.n2;omega
 have l0:=h.lv.iat k gI;rw[<-bV gI] at l0;have l1:=h.lv.free k;have x0:=h.box.has;have x1:=h.lv.has;have t0:Bw≠B2:=h.box.s.apart h.lv (by decide);have t1:B1≠B2:=h.on.apart h.lv (by decide);have t2:Bw≠B1:=h.box.s.apart h.on (by decide);have g0:(0:Int)<=k:=by omega
 have g1:(k:Int)<n:=by omega
 clear h hg;by_cases hx:aF r k=x
 ·have hxb:(aF r k !=x)=false:=by simpa using hx
  have HX:=aa hx;clear hx;go_enter Tryz.func128,Tryz.ntmps128;go_wp2_with fail;refine bodyPost_end (v:= .tuple #[]) ?_ rfl ?_
  ·simp[results,Tryz.results128,go_sem]
  have:=HH.out;refine⟨_,v,rfl,?_,HG.out⟩;show lL W0.heap.size w Bw n B1 c1 B2 c2 v ⟨r.on,r.level.set k x⟩ (if aF r k=x then ps else _);rw[if_pos HX.out,kG r.level k gI x (by rw[<-bV gI];exact HX.out)];exact this
 have hxb:(aF r k !=x)=true:=by simpa using hx
 have HX:=aa hx;clear hx;obtain⟨i0,hi,dt,da,cN⟩:=info_parts ya;have H2:=aa (HH.out.setLv k hk x);have G2:Hid (Gr W0 (w.setCell ⟨B2,k,none⟩ (.int .i64 x))):=aa (HG.out.setc HH.out.b2);go_enter Tryz.func128,Tryz.ntmps128;go_wp2_with (at_builtin;refine wpList_append_own _ rfl _ _ 36 rfl W0.heap.size 42 i0 (.agg #[.int .i64 0,.int .i64 0,.int .i64 0]) 3 24 Tryz.underlying36 hi dt da cN rfl (by decide) v ps.length (ci ps) rfl (H2.out.pl.alloc _) ⟨w.heap.size,0,none⟩ 1 1 (jM ⟨2,k,x⟩) rfl rfl (by have:=zb (w.setCell ⟨B2,k,none⟩ (.int .i64 x)) (.int .i64 2) (.int .i64 k) (.int .i64 x) 42;simpa [jM] using this) (CY _) (by unfold maxLen;omega) (by omega) (by have:=G2.out.size;simp at this ⊢;omega) ?_;intro v' w1 bI aE eJ;have PU:=aa (H2.out.push aE bI);have GU:=aa (H2.out.gr G2.out aE);obtain⟨g',cap',rfl⟩:=ownsRow_succ bI;have f0:=PU.out.1.free 2;have f1:=PU.out.1.cell 2 (by simp);have f2:=PU.out.1.has;clear bI aE eJ);refine bodyPost_end (v:= .tuple #[]) ?_ rfl ?_
 ·simp[results,Tryz.results128,go_sem]
 refine⟨_,.slice (some ⟨g',0,none⟩) (ps.length+1) cap',rfl,?_,GU.out.setc HH.out.b0⟩;have:=PU.out.2;show lL W0.heap.size _ Bw n B1 c1 B2 c2 _ ⟨r.on,r.level.set k x⟩ (if aF r k=x then _ else ps++ [⟨2,k,x⟩]);rw[if_neg HX.out];exact this
theorem Ej(W0:World)(Bw n B1 c1 B2 c2:Nat)(v:Value)(r:Rls)(ps:List Wri)(k:Nat)(x:Bool)(w:World)(hk:k<n)(h:lL W0.heap.size w Bw n B1 c1 B2 c2 v r ps)(hg:Gr W0 w)(sw:ps.length<=1000):
  Calls Tryz.prog 129 #[.pointer (some ⟨Bw,0,none⟩),.int .i64 k,.bool x] w (Sk W0 Bw n B1 c1 B2 c2 (fT (r,ps) k x)):=by
 have HH:=aa h;have HG:=aa hg;have e0:=h.box.cell 0 (by simp);have e1:=h.box.cell 1 (by simp);have e2:=h.box.cell 2 (by simp);simp only[List.getElem_cons_zero,List.getElem_cons_succ] at e0 e1 e2;have e3:=h.box.free 2;have gI:k<r.on.length:=by have:=h.n1;omega
 have l0:=h.on.bat k gI;rw[<-bT gI] at l0;have l1:=h.on.free k;have x0:=h.box.has;have x1:=h.on.has;have t0:Bw≠B2:=h.box.s.apart h.lv (by decide);have t1:B1≠B2:=h.on.apart h.lv (by decide);have t2:Bw≠B1:=h.box.s.apart h.on (by decide);have g0:(0:Int)<=k:=by omega
 have g1:(k:Int)<n:=by omega
 clear h hg;by_cases hx:aQ r k=x
 ·have hxb:(aQ r k==x)=true:=by simpa using hx
  have HX:=aa hx;clear hx;go_enter Tryz.func129,Tryz.ntmps129;go_wp2_with fail;refine bodyPost_ret (v:= .tuple #[]) ?_ rfl ?_
  ·simp[results,Tryz.results129,go_sem]
  have:=HH.out;refine⟨_,v,rfl,?_,HG.out⟩;show lL W0.heap.size w Bw n B1 c1 B2 c2 v ⟨r.on.set k x,r.level⟩ (if aQ r k=x then ps else _);rw[if_pos HX.out,kG r.on k gI x (by rw[<-bT gI];exact HX.out)];exact this
 have hxb:(aQ r k==x)=false:=by simpa using hx
 have HX:=aa hx;clear hx;obtain⟨i0,hi,dt,da,cN⟩:=info_parts ya;have H2:=aa (HH.out.setOn k hk x);have G2:Hid (Gr W0 (w.setCell ⟨B1,k,none⟩ (.bool x))):=aa (HG.out.setc HH.out.b1);cases x with
 |true=>
  go_enter Tryz.func129,Tryz.ntmps129;go_wp2_with (at_builtin;refine wpList_append_own _ rfl _ _ 36 rfl W0.heap.size 42 i0 (.agg #[.int .i64 0,.int .i64 0,.int .i64 0]) 3 24 Tryz.underlying36 hi dt da cN rfl (by decide) v ps.length (ci ps) rfl (H2.out.pl.alloc _) ⟨w.heap.size,0,none⟩ 1 1 (jM ⟨3,k,1⟩) rfl rfl (by have:=zb (w.setCell ⟨B1,k,none⟩ (.bool true)) (.int .i64 3) (.int .i64 k) (.int .i64 1) 42;simpa [jM] using this) (CY _) (by unfold maxLen;omega) (by omega) (by have:=G2.out.size;simp at this ⊢;omega) ?_;intro v' w1 bI aE eJ;have PU:=aa (H2.out.push aE bI);have GU:=aa (H2.out.gr G2.out aE);obtain⟨g',cap',rfl⟩:=ownsRow_succ bI;have f0:=PU.out.1.free 2;have f1:=PU.out.1.cell 2 (by simp);have f2:=PU.out.1.has;clear bI aE eJ);refine bodyPost_end (v:= .tuple #[]) ?_ rfl ?_
  ·simp[results,Tryz.results129,go_sem]
  refine⟨_,.slice (some ⟨g',0,none⟩) (ps.length+1) cap',rfl,?_,GU.out.setc HH.out.b0⟩;have:=PU.out.2;show lL W0.heap.size _ Bw n B1 c1 B2 c2 _ ⟨r.on.set k true,r.level⟩ (if aQ r k=true then _ else ps++ [⟨3,k,if true=true then 1 else 0⟩]);rw[if_neg HX.out];simpa using this
 |false=>
  go_enter Tryz.func129,Tryz.ntmps129;go_wp2_with (at_builtin;refine wpList_append_own _ rfl _ _ 36 rfl W0.heap.size 42 i0 (.agg #[.int .i64 0,.int .i64 0,.int .i64 0]) 3 24 Tryz.underlying36 hi dt da cN rfl (by decide) v ps.length (ci ps) rfl (H2.out.pl.alloc _) ⟨w.heap.size,0,none⟩ 1 1 (jM ⟨3,k,0⟩) rfl rfl (by have:=zb (w.setCell ⟨B1,k,none⟩ (.bool false)) (.int .i64 3) (.int .i64 k) (.int .i64 0) 42;simpa [jM] using this) (CY _) (by unfold maxLen;omega) (by omega) (by have:=G2.out.size;simp at this ⊢;omega) ?_;intro v' w1 bI aE eJ;have PU:=aa (H2.out.push aE bI);have GU:=aa (H2.out.gr G2.out aE);obtain⟨g',cap',rfl⟩:=ownsRow_succ bI;have f0:=PU.out.1.free 2;have f1:=PU.out.1.cell 2 (by simp);have f2:=PU.out.1.has;clear bI aE eJ);refine bodyPost_end (v:= .tuple #[]) ?_ rfl ?_
  ·simp[results,Tryz.results129,go_sem]
  refine⟨_,.slice (some ⟨g',0,none⟩) (ps.length+1) cap',rfl,?_,GU.out.setc HH.out.b0⟩;have:=PU.out.2;show lL W0.heap.size _ Bw n B1 c1 B2 c2 _ ⟨r.on.set k false,r.level⟩ (if aQ r k=false then _ else ps++ [⟨3,k,if false=true then 1 else 0⟩]);rw[if_neg HX.out];simpa using this
noncomputable def fE(top:Rls)(s:Rls×List Wri):Nat->Rls×List Wri
 |0=>s
 |k+1=>if aQ top k=true then fT (gB (fE top s k) k (aF top k)) k true else fE top s k
noncomputable def cE(tg:Rls)(n:Nat)(s:Rls×List Wri):Nat->Rls×List Wri
 |0=>s
 |m+1=>gB (if aQ tg (n-1-m)=true then cE tg n s m else fT (cE tg n s m) (n-1-m) false) (n-1-m) (aF tg (n-1-m))
noncomputable def l6(n:Nat)(a b:Rls):List Wri:=(cE b n (fE (aT a b) (a,[]) n) n).2
theorem uw(s:Rls×List Wri)(k:Nat)(x:Int):(gB s k x).2.length<=s.2.length+1:=by unfold gB;simp only;split<;>simp
theorem xm(s:Rls×List Wri)(k:Nat)(x:Bool):(fT s k x).2.length<=s.2.length+1:=by unfold fT;simp only;split<;>simp
theorem vB(top:Rls)(s:Rls×List Wri)(k:Nat):(fE top s k).2.length<=s.2.length+2*k:=by
 induction k with
 |zero=>simp[fE]
 |succ k ih=>
  unfold fE;split
  ·have h1:=xm (gB (fE top s k) k (aF top k)) k true;have h2:=uw (fE top s k) k (aF top k);omega
  omega
theorem zj(tg:Rls)(n:Nat)(s:Rls×List Wri)(k:Nat):(cE tg n s k).2.length<=s.2.length+2*k:=by
 induction k with
 |zero=>simp[cE]
 |succ k ih=>
  unfold cE;split
  ·have h2:=uw (cE tg n s k) (n-1-k) (aF tg (n-1-k));omega
  have h1:=xm (cE tg n s k) (n-1-k) false;have h2:=uw (fT (cE tg n s k) (n-1-k) false) (n-1-k) (aF tg (n-1-k));omega
def qP(p:Wri):Prop:=aK p.kind/\aK p.unit/\aK p.value
theorem xw{s:Rls×List Wri}{k:Nat}{x:Int}(h:∀p∈s.2,qP p)(hk:k<=1000)(hx:aK x):∀p∈(gB s k x).2,qP p:=by
 unfold gB;simp only;split
 ·exact h
 intro p hp;rcases List.mem_append.1 hp with q|q
 ·exact h p q
 rw[List.mem_singleton.1 q];exact⟨by unfold aK;simp,by unfold aK;simp only;omega,hx⟩
theorem AP{s:Rls×List Wri}{k:Nat}{x:Bool}(h:∀p∈s.2,qP p)(hk:k<=1000):∀p∈(fT s k x).2,qP p:=by
 unfold fT;simp only;split
 ·exact h
 intro p hp;rcases List.mem_append.1 hp with q|q
 ·exact h p q
 rw[List.mem_singleton.1 q];exact⟨by unfold aK;simp,by unfold aK;simp only;omega,by cases x<;>(unfold aK;simp)⟩
theorem SQ{top:Rls}{s:Rls×List Wri}(h:∀p∈s.2,qP p)(ht:∀k,aK (aF top k))(k:Nat)(hk:k<=1000):∀p∈(fE top s k).2,qP p:=by
 induction k with
 |zero=>exact h
 |succ k ih=>
  unfold fE;split
  ·exact AP (xw (ih (by omega)) (by omega) (ht k)) (by omega)
  exact ih (by omega)
theorem Mw{tg:Rls}{n:Nat}{s:Rls×List Wri}(h:∀p∈s.2,qP p)(ht:∀k,aK (aF tg k))(hn:n<=1000)(k:Nat):∀p∈(cE tg n s k).2,qP p:=by
 induction k with
 |zero=>exact h
 |succ k ih=>
  unfold cE;split
  ·exact xw ih (by omega) (ht _)
  exact xw (AP ih (by omega)) (by omega) (ht _)
theorem lz{l:List Sup}{r:Rls}(h:bL l r)(k:Nat):aK (aF r k):=by
 by_cases hk:k<r.level.length
 ·rw[bV hk];have h2:=h.2.2.1;have h3:=h.2.2.2 k (by omega) hk;have hz:=(cW h.1).1;simp only[jI,not_or] at hz;have:l[k].levels.length<=16:=Classical.byContradiction fun q=>hz.2 ⟨k,by omega,by omega⟩;unfold aK;omega
 have:aF r k=0:=by simp[aF,List.getD_eq_getElem?_getD,List.getElem?_eq_none (Nat.le_of_not_lt hk)]
 rw[this];unfold aK;omega
theorem wN{a b:Rls}(ha:∀k,aK (aF a k))(hb:∀k,aK (aF b k))(k:Nat):aK (aF (aT a b) k):=by
 by_cases h:k<b.level.length
 ·rw[Jk a b k h];unfold jlv;split
  ·split
   ·split
    ·exact hb k
    exact ha k
   exact ha k
  exact hb k
 have:aF (aT a b) k=0:=by simp[aF,List.getD_eq_getElem?_getD,aT,List.getElem?_eq_none,Nat.le_of_not_lt h]
 rw[this];unfold aK;omega
theorem Es{l:List Sup}{n:Nat}{a b:Rls}(ha:bL l a)(hb:bL l b)(hn:n<=1000):∀p∈l6 n a b,qP p:=
 Mw (SQ (by simp) (wN (lz ha) (lz hb)) n hn) (lz hb) hn n
theorem GR(n:Nat)(a b:Rls):(l6 n a b).length<=4*n:=by have h1:=zj b n (fE (aT a b) (a,[]) n) n;have h2:=vB (aT a b) (a,[]) n;simp only[List.length_nil] at h2;unfold l6;omega
noncomputable def gj(l:List Sup)(a b:Rls)(d:List Drw):Int:=if iL l [a,b]=0 then(if b7 l d then(if bi l a d/\bi l b d then 0 else 7) else 1) else iL l [a,b]
noncomputable def fV(l:List Sup)(a b:Rls)(d:List Drw):List Wri:=if gj l a b d=0 then l6 l.length a b else []
theorem Jj(ps:List Wri)(k j:Nat)(hk:k<ps.length)(hj:j<3):(ci ps)[k*3+j]?=(jM ps[k])[j]?:=by
 induction ps generalizing k with
 |nil=>simp at hk
 |cons x ps ih=>
  have e:ci (x::ps)=jM x++ci ps:=rfl;rw[e];have hx:(jM x).length=3:=rfl;cases k with
  |zero=>rw[List.getElem?_append_left (by omega)];simp
  |succ k=>rw[List.getElem?_append_right (by omega),hx,show(k+1)*3+j-3=k*3+j by omega,ih k (by simpa using hk)];simp
theorem wA{w:World}{base n:Nat}{v:Value}{ps:List Wri}(h:w.ownsRow base 42 3 v n (ci ps))(hp:∀p∈ps,qP p):∃a c,v= .slice a ps.length c/\ps.length<=c/\ag 3 dY w a ps:=by
 have hn:n=ps.length:=by have:=h.1;rw[AJ] at this;omega
 subst hn;obtain⟨h0,⟨rfl,h1⟩|⟨g,cap,cur,rfl,hb,hg,hn,_,hs,ht⟩⟩:=h
 ·have:ps= []:=List.eq_nil_of_length_eq_zero h1;subst this;exact⟨none,0,rfl,Nat.le_refl _,ag.nil _ _ _ _⟩
 refine⟨_,cap,rfl,hn,fun k hk=>⟨g,0,rfl,?_⟩⟩;have key:∀j,(hj:j<3)->w.cell? ⟨g,0+k*3+j,none⟩=(jM ps[k])[j]?:=fun j hj=>by rw[<-Jj ps k j hk hj,<-ht,List.getElem?_take,if_pos (by omega)];simp[World.cell?,hg]
 have hw:=hp _ (List.getElem_mem hk);exact⟨⟨key 0 (by omega),hw.1⟩,⟨key 1 (by omega),hw.2.1⟩,⟨key 2 (by omega),hw.2.2⟩⟩
theorem Nj{w:World}{B:Nat}{a b:Rls}{a1 a2 a3 a4:Option Addr}{c1 c2 c3 c4:Nat}(e0:w.cell? ⟨B,0,none⟩=some (.slice a1 a.on.length c1))(e1:w.cell? ⟨B,1,none⟩=some (.slice a2 a.level.length c2))(e2:w.cell? ⟨B,2,none⟩=some (.slice a3 b.on.length c3))(e3:w.cell? ⟨B,3,none⟩=some (.slice a4 b.level.length c4))
  (h1:ag 1 RB w a1 a.on) (h2:ag 1 RI w a2 a.level) (h3:ag 1 RB w a3 b.on) (h4:ag 1 RI w a4 b.level) (k1:a.on.length<=c1) (k2:a.level.length<=c2) (k3:b.on.length<=c3) (k4:b.level.length<=c4) (f1:Fit a.on.length) (f2:Fit a.level.length) (f3:Fit b.on.length) (f4:Fit b.level.length):
  ag 2 zd w (some ⟨B,0,none⟩) [a,b]:=by
 intro k hk;refine⟨B,0,rfl,?_⟩;have:k=0∨k=1:=by simp at hk;omega
 rcases this with rfl|rfl
 ·exact⟨⟨a1,c1,e0,k1,f1,h1⟩,⟨a2,c2,e1,k2,f2,h2⟩⟩
 exact⟨⟨a3,c3,e2,k3,f3,h3⟩,⟨a4,c4,e3,k4,f4,h4⟩⟩
end
section
open Classical
def As(x m:Rls)(i:Nat):Prop:=aQ x i=aQ m i/\(aQ m i=true->aF x i=aF m i)
theorem xS{l:List Sup}{x m:Rls}{i:Nat}(h:aF x i=aF m i):vlt l x i=vlt l m i:=by
 unfold aF at h;unfold vlt;split
 ·rw[h]
 rfl
theorem xz{l:List Sup}(hok:gz l){i:Nat}(hi:i<l.length)(b:Nat)(hb:b<l[i].levels.length):∀a,(vE:a<=b)->l[i].levels[a]'(by omega)<=l[i].levels[b]:=by
 obtain⟨_,q⟩:=hok i hi;induction b with
 |zero=>
  intro a ha;have:a=0:=by omega
  subst this;exact Int.le_refl _
 |succ b ih=>
  intro a vE;by_cases e:a=b+1
  ·subst e;exact Int.le_refl _
  have h1:=ih (by omega) a (by omega);obtain⟨_,_,_,h2⟩:=q.2 (b+1) hb;have h3:=h2 (by omega);simp only[Nat.add_sub_cancel] at h3;omega
theorem Dz{l:List Sup}{x y:Rls}(hx:bL l x)(hy:bL l y){i:Nat}(hi:i<l.length)(h:aF x i<=aF y i):vlt l x i<=vlt l y i:=by obtain⟨h1,n,hn,gc,hv⟩:=tJ hx i hi;obtain⟨k1,m,hm,me,hw⟩:=tJ hy i hi;rw[bV h1,bV k1,hn,hm] at h;rw[hv,hw];exact xz (cW hx.1).2 hi m me n (by omega)
section
variable {l:List Sup} {d:List Drw} {a b:Rls}
theorem ye{r:Rls}(hr:bi l r d){i:Nat}(hi:i<l.length)(ho:aQ r i=true):ld l d i<=l[i].capacity/\(0<=l[i].parent->aQ r l[i].parent.toNat=true/\vlt l r i+l[i].dropout<=vlt l r l[i].parent.toNat):=(hr.2.2.1 i hi).2 ho hi
theorem mM{r:Rls}(hr:bi l r d){i:Nat}(hi:i<l.length)(hu:fF l d i):aQ r i=true:=(hr.2.2.1 i hi).1 hu
theorem lT(hb:bL l b){i:Nat}(hi:i<l.length):aQ (aT a b) i=(aQ a i||aQ b i):=UC a b i (by have:=hb.2.1;omega)
theorem uv(hb:bL l b){i:Nat}(hi:i<l.length):aF (aT a b) i=jlv a b i:=Jk a b i (by have:=hb.2.2.1;omega)
theorem Kr(ha:bL l a)(hb:bL l b):bL l (aT a b):=by
 refine⟨ha.1,by rw[iH];exact hb.2.1,by rw[jr];exact hb.2.2.1,fun k hk jP=>?_⟩;rw[<-bV jP,uv hb hk];have h1:=ha.2.2.1;have h2:=hb.2.2.1;have g1:=ha.2.2.2 k hk (by omega);have g2:=hb.2.2.2 k hk (by omega);rw[<-bV] at g1 g2;unfold jlv;split
 ·split
  ·split<;>assumption
  exact g1
 exact g2
theorem Ag(hb:bL l b){i:Nat}(hi:i<l.length)(ho:aQ a i=true):aF a i<=aF (aT a b) i:=by
 rw[uv hb hi,jlv,if_pos ho];split
 ·split<;>omega
 omega
theorem zP(hb:bL l b){i:Nat}(hi:i<l.length)(ho:aQ b i=true):aF b i<=aF (aT a b) i:=by
 rw[uv hb hi,jlv];simp only[ho,if_true];split
 ·split<;>omega
 omega
theorem Qr(hb:bL l b){i:Nat}(hi:i<l.length)(ho:aQ (aT a b) i=true):(aQ a i=true/\aF (aT a b) i=aF a i)∨(aQ b i=true/\aF (aT a b) i=aF b i):=by
 rw[lT hb hi] at ho;rw[uv hb hi,jlv];by_cases h1:aQ a i=true
 ·rw[if_pos h1];by_cases h2:aQ b i=true
  ·rw[if_pos h2];split
   ·exact .inr ⟨h2,rfl⟩
   exact .inl ⟨h1,rfl⟩
  rw[if_neg h2];exact .inl ⟨h1,rfl⟩
 have h2:aQ b i=true:=by simpa [h1] using ho
 rw[if_neg h1];exact .inr ⟨h2,rfl⟩
theorem MN(ha:bi l a d)(hb:bi l b d){x:Rls}(hx:bL l x)(m:Nat->Rls)(hm:∀i,i<l.length->m i=a∨m i=aT a b∨m i=b)(has:∀i,i<l.length->As x (m i) i)
  (hp:∀i (hi:i<l.length),0<=l[i].parent->m l[i].parent.toNat=aT a b∨m l[i].parent.toNat=m i):bi l x d:=by
 have ra:=ha.2.1;have rb:=hb.2.1;have rj:=Kr ra rb
 -- a supply that is on in a mode:in a or in b,with its level
 have onm:∀i,i<l.length->aQ x i=true->(aQ a i=true/\(m i=a∨m i=aT a b)/\vlt l x i=vlt l a i)∨(aQ b i=true/\(m i=b∨m i=aT a b)/\vlt l x i=vlt l b i):=by
  intro i hi ho;have h1:=has i hi;rcases hm i hi with e|e|e
  ·rw[e] at h1;have h2:aQ a i=true:=by rw[<-h1.1];exact ho
   exact .inl ⟨h2,.inl e,xS (h1.2 h2)⟩
  ·rw[e] at h1;have h2:aQ (aT a b) i=true:=by rw[<-h1.1];exact ho
   rcases Qr rb hi h2 with⟨q1,q2⟩|⟨q1,q2⟩
   ·exact .inl ⟨q1,.inr e,xS ((h1.2 h2).trans q2)⟩
   exact .inr ⟨q1,.inr e,xS ((h1.2 h2).trans q2)⟩
  rw[e] at h1;have h2:aQ b i=true:=by rw[<-h1.1];exact ho
  exact .inr ⟨h2,.inl e,xS (h1.2 h2)⟩
 -- the parent in the join or as itself gives no less
 have par:∀(r:Rls),(r=a∨r=b)->∀p,p<l.length->aQ r p=true->(m p=r∨m p=aT a b)->aQ x p=true/\vlt l r p<=vlt l x p:=by
  intro r hr p dw ho hmp;have h1:=has p dw;rcases hmp with e|e
  ·rw[e] at h1;exact⟨by rw[h1.1];exact ho,by rw[xS (h1.2 ho)];exact Int.le_refl _⟩
  rw[e] at h1;have h2:aQ (aT a b) p=true:=by rw[lT rb dw];rcases hr with rfl|rfl<;>simp[ho]
  refine⟨by rw[h1.1];exact h2,?_⟩;rw[xS (h1.2 h2)];rcases hr with rfl|rfl
  ·exact Dz ra rj dw (Ag rb dw ho)
  exact Dz rb rj dw (zP rb dw ho)
 have hz:=cW ra.1;refine⟨ha.1,hx,fun i hi=>⟨fun hu=>?_,fun ho _=>?_⟩,fun k hk=>?_⟩
 ·have u1:=mM ha hi hu;have u2:=mM hb hi hu;rw[(has i hi).1];rcases hm i hi with e|e|e
  ·rw[e];exact u1
  ·rw[e,lT rb hi,u1];rfl
  rw[e];exact u2
 ·rcases onm i hi ho with⟨q1,q2,q3⟩|⟨q1,q2,q3⟩
  ·have q:=ye ha hi q1;refine⟨q.1,fun iy=>?_⟩;obtain⟨w1,w2⟩:=q.2 iy;have dw:l[i].parent.toNat<l.length:=by
    obtain⟨_,z⟩:=hz.2 i hi;have:=z.1.2.1;omega
   obtain⟨y1,y2⟩:=par a (.inl rfl) _ dw w1 (by
    rcases hp i hi iy with e|e
    ·exact .inr e
    rw[e];rcases q2 with e2|e2
    ·exact .inl e2
    exact .inr e2)
   exact⟨y1,by rw[q3];omega⟩
  have q:=ye hb hi q1;refine⟨q.1,fun iy=>?_⟩;obtain⟨w1,w2⟩:=q.2 iy;have dw:l[i].parent.toNat<l.length:=by obtain⟨_,z⟩:=hz.2 i hi;have:=z.1.2.1;omega
  obtain⟨y1,y2⟩:=par b (.inr rfl) _ dw w1 (by
   rcases hp i hi iy with e|e
   ·exact .inr e
   rw[e];rcases q2 with e2|e2
   ·exact .inl e2
   exact .inr e2)
  exact⟨y1,by rw[q3];omega⟩
 have hd:=ha.1.2.2 k hk;unfold fq at hd;have d1:=ha.2.2.2 k hk;have d2:=hb.2.2.2 k hk;have eX:d[k].supply.toNat<l.length:=by omega
 have hus:fF l d d[k].supply.toNat:=by rw[Aq eX];exact .inr (.inl ⟨d[k],List.getElem_mem hk,by omega⟩)
 have Cv:aQ x d[k].supply.toNat=true:=by
  have u1:=mM ha eX hus;have u2:=mM hb eX hus;rw[(has _ eX).1];rcases hm _ eX with e|e|e
  ·rw[e];exact u1
  ·rw[e,lT rb eX,u1];rfl
  rw[e];exact u2
 unfold mA at*;rcases onm _ eX Cv with⟨_,_,q3⟩|⟨_,_,q3⟩
 ·rw[q3];exact d1
 rw[q3];exact d2
end
end
end Go.Proofs.YtlmhkjdkcoiioaaGreatDoor
