/- Lemmas and contracts for the proof of PointAlone (several texts in one, printed by wip/tools/pack.py): Kb Kc. -/
import Derived.Test.YtlmhkjdkcoiioaaGreatDoorAl8pa
set_option maxRecDepth 100000
set_option maxHeartbeats 16000000
set_option linter.unusedVariables false
set_option linter.unusedSimpArgs false
namespace Go.Proofs.YtlmhkjdkcoiioaaGreatDoor
section
open Go.RowKit
theorem JH(x y:Int)(_hx:0<=x)(_hy:1<=y):Int.gcd y (x%y)=Int.gcd x y:=by obtain⟨a,rfl⟩:=Int.eq_ofNat_of_zero_le _hx;obtain⟨b,rfl⟩:=Int.eq_ofNat_of_zero_le (show 0<=y by omega);show Nat.gcd b (a%b)=Nat.gcd a b;rw[Nat.gcd_comm,<-Nat.gcd_rec,Nat.gcd_comm]
def bU(n d:Int):Bool:=decide (0<=n)&&decide (n<=144115188075855872)&&decide (1<=d)&&decide (d<=16777216)&&((Int.gcd n d:Int)==1)
def kq(n d:Int):Bool:=decide (0<=n)&&decide (1<=d)&&bU (n/Int.gcd n d) (d/Int.gcd n d)
def gQ(n d:Int):Int:=if kq n d=true then n/Int.gcd n d else 0
def iw(n d:Int):Int:=if kq n d=true then d/Int.gcd n d else 0
def kI(n d:Int):Int:=if kq n d=true then 0 else 2
theorem iu(n d:Int)(h1:1<=d):1<=(Int.gcd n d:Int)/\(Int.gcd n d:Int)<=d:=by have h2:0<Int.gcd n d:=Int.gcd_pos_of_ne_zero_right n (by omega);have h3:=Int.le_of_dvd (show 0<d by omega) (Int.gcd_dvd_right n d);omega
theorem dq(n g:Int)(h:0<=n)(hg:1<=g):0<=n/g/\n/g<=n:=
 ⟨Int.ediv_nonneg h (by omega),Int.ediv_le_self g h⟩
theorem qp(a b:Int)(w:World)(ha0:0<=a)(ha:a<=9223372036854775807)(hb0:0<=b)(hb:b<=9223372036854775807):
  Calls Tryz.prog 132 #[.int .i64 a,.int .i64 b] w (aN w (.int .i64 (Int.gcd a b))):=by
 go_enter Tryz.func132,Tryz.ntmps132;go_wp2;go_loopw [0,1] (fun t u wr=>∃x y:Int,0<=x/\x<=9223372036854775807/\0<=y/\y<=9223372036854775807/\t= .int .i64 x/\u= .int .i64 y/\Int.gcd x y=Int.gcd a b/\∃n,wr=w.drewN n) (fun _ u _=>(intOf u).toNat);case atStart=>exact⟨a,b,ha0,ha,hb0,hb,rfl,rfl,rfl,0,rfl⟩
 case round=>
  obtain⟨x,y,lR,hx,kN,hy,rfl,rfl,hg,n,rfl⟩:=hrel;have HG:=aa hg;clear hg;by_cases h0:y=0
  ·subst h0;go_wp2;go_ret;refine⟨?_,⟨#[],w.drawn+n,?_⟩⟩
   ·rw[<-HG.out];simp;omega
   simp[xt,World.drewN]
  have ka:1<=y:=by omega
  have hyn:(y !=0)=true:=by simp;omega
  go_wp2
  go_quiet (fail)
  go_wp2;go_roundw;case rel=>have h1:=Int.emod_nonneg x (show y≠0 by omega);have h2:=Int.emod_lt_of_pos x (show 0<y by omega);exact⟨y,x%y,by omega,by omega,by omega,by omega,rfl,rfl,by rw[JH x y lR ka];exact HG.out,n+nq,by simp⟩
  case measure=>have h1:=Int.emod_nonneg x (show y≠0 by omega);have h2:=Int.emod_lt_of_pos x (show 0<y by omega);simp[intOf];omega
theorem j6(n d:Int)(w:World)(nX: -9223372036854775808<=n)(gc:n<=9223372036854775807)(om: -9223372036854775808<=d)(kf:d<=9223372036854775807):
  Calls Tryz.prog 67 #[.agg #[.int .i64 n,.int .i64 d]] w (aN w (.bool (bU n d))):=by
 go_enter Tryz.func67,Tryz.ntmps67;go_wp2_with (go_at_call 132;refine(qp _ _ _ (by omega) (by omega) (by omega) (by omega)).mono ?_;rintro e w' ⟨rfl,O,dd,rfl⟩);all_goals go_ret
 all_goals refine⟨ai ?_,grr⟩
 all_goals first|(simp[bU, *];done)|(simp[bU];omega)
theorem Uc(n d g:Int)(w:World)(nX:0<=n)(gc:n<=9223372036854775807)(om:1<=d)(kf:d<=9223372036854775807)(hg:Hid (g=(Int.gcd n d:Int)))(bD:1<=g)
  (hq0:0<=n/g) (hq1:n/g<=9223372036854775807) (hr0:0<=d/g) (AX:d/g<=9223372036854775807):
  Calls Tryz.prog 198 #[.int .i64 n,.int .i64 d] w (aN w (if bU (n/g) (d/g)=true then .tuple #[.agg #[.int .i64 (n/g),.int .i64 (d/g)],.int .i64 0] else .tuple #[.agg #[.int .i64 0,.int .i64 0],.int .i64 2])):=by
 by_cases hv:bU (n/g) (d/g)=true
 ·rw[if_pos hv];go_enter Tryz.func198,Tryz.ntmps198;go_wp2_with (go_at_call 132;refine(qp _ _ _ (by omega) (by omega) (by omega) (by omega)).mono ?_;rw[<-hg.out];rintro e w' ⟨rfl,O,dd,rfl⟩);go_region;all_goals go_wp2_with (go_at_call 67;refine(j6 _ _ _ (by omega) (by omega) (by omega) (by omega)).mono ?_;rintro e w' ⟨rfl,O',dd',rfl⟩)
  exact bodyPost_ret (v:= .tuple #[.agg #[.int .i64 (n/g),.int .i64 (d/g)],.int .i64 0]) (by simp[results,Tryz.results198,go_sem]) rfl
   ⟨rfl,grr⟩
 rw[if_neg hv];go_enter Tryz.func198,Tryz.ntmps198;go_wp2_with (go_at_call 132;refine(qp _ _ _ (by omega) (by omega) (by omega) (by omega)).mono ?_;rw[<-hg.out];rintro e w' ⟨rfl,O,dd,rfl⟩);go_region;all_goals go_wp2_with (go_at_call 67;refine(j6 _ _ _ (by omega) (by omega) (by omega) (by omega)).mono ?_;rintro e w' ⟨rfl,O',dd',rfl⟩)
 exact bodyPost_ret (v:= .tuple #[.agg #[.int .i64 0,.int .i64 0],.int .i64 2]) (by simp[results,Tryz.results198,go_sem]) rfl
  ⟨rfl,grr⟩
theorem Nd(n d:Int)(w:World)(nX: -9223372036854775808<=n)(gc:n<=9223372036854775807)(om: -9223372036854775808<=d)(kf:d<=9223372036854775807):
  Calls Tryz.prog 198 #[.int .i64 n,.int .i64 d] w (aN w (.tuple #[.agg #[.int .i64 (gQ n d),.int .i64 (iw n d)],.int .i64 (kI n d)])):=by
 by_cases h:0<=n/\1<=d
 ·have hg:=iu n d h.2;have h1:=dq n (Int.gcd n d) h.1 hg.1;have h2:=dq d (Int.gcd n d) (by omega) hg.1;have:=Uc n d (Int.gcd n d) w h.1 gc h.2 kf (aa rfl) hg.1 h1.1 (by omega) h2.1 (by omega);have e:kq n d=bU (n/Int.gcd n d) (d/Int.gcd n d):=by simp[kq,h.1,h.2]
  by_cases hv:bU (n/Int.gcd n d) (d/Int.gcd n d)=true
  ·rw[if_pos hv] at this;simp only[gQ,iw,kI,e,if_pos hv];exact this
  rw[if_neg hv] at this;simp only[gQ,iw,kI,e,if_neg hv];exact this
 have e:kq n d=false:=by
  have:decide (0<=n)=false∨decide (1<=d)=false:=by simp;omega
  rcases this with h|h<;>simp[kq,h]
 simp only[gQ,iw,kI,e,Bool.false_eq_true,if_false];clear e;by_cases h1:n<0;all_goals
  go_enter Tryz.func198,Tryz.ntmps198;go_wp2_with fail;exact bodyPost_ret (v:= .tuple #[.agg #[.int .i64 0,.int .i64 0],.int .i64 2]) (by simp[results,Tryz.results198,go_sem]) rfl
   ⟨rfl,grr⟩
theorem mn(a b:Int)(w:World)(ha0:0<=a)(ha:a<=9223372036854775807)(hb0:0<=b)(hb:b<=9223372036854775807):
  Calls Tryz.prog 142 #[.int .i64 a,.int .i64 b] w (aN w (.int .i64 (Int.gcd a b))):=by
 go_enter Tryz.func142,Tryz.ntmps142;go_wp2;go_loopw [0,1] (fun t u wr=>∃x y:Int,0<=x/\x<=9223372036854775807/\0<=y/\y<=9223372036854775807/\t= .int .i64 x/\u= .int .i64 y/\Int.gcd x y=Int.gcd a b/\∃n,wr=w.drewN n) (fun _ u _=>(intOf u).toNat);case atStart=>exact⟨a,b,ha0,ha,hb0,hb,rfl,rfl,rfl,0,rfl⟩
 case round=>
  obtain⟨x,y,lR,hx,kN,hy,rfl,rfl,hg,n,rfl⟩:=hrel;have HG:=aa hg;clear hg;by_cases h0:y=0
  ·subst h0;go_wp2;go_ret;refine⟨?_,⟨#[],w.drawn+n,?_⟩⟩
   ·rw[<-HG.out];simp;omega
   simp[xt,World.drewN]
  have ka:1<=y:=by omega
  have hyn:(y !=0)=true:=by simp;omega
  go_wp2
  go_quiet (fail)
  go_wp2;go_roundw;case rel=>have h1:=Int.emod_nonneg x (show y≠0 by omega);have h2:=Int.emod_lt_of_pos x (show 0<y by omega);exact⟨y,x%y,by omega,by omega,by omega,by omega,rfl,rfl,by rw[JH x y lR ka];exact HG.out,n+nq,by simp⟩
  case measure=>have h1:=Int.emod_nonneg x (show y≠0 by omega);have h2:=Int.emod_lt_of_pos x (show 0<y by omega);simp[intOf];omega
theorem eK(n d:Int)(w:World)(nX: -9223372036854775808<=n)(gc:n<=9223372036854775807)(om: -9223372036854775808<=d)(kf:d<=9223372036854775807):
  Calls Tryz.prog 82 #[.agg #[.int .i64 n,.int .i64 d]] w (aN w (.bool (bU n d))):=by
 go_enter Tryz.func82,Tryz.ntmps82;go_wp2_with (go_at_call 142;refine(mn _ _ _ (by omega) (by omega) (by omega) (by omega)).mono ?_;rintro e w' ⟨rfl,O,dd,rfl⟩);all_goals go_ret
 all_goals refine⟨ai ?_,grr⟩
 all_goals first|(simp[bU, *];done)|(simp[bU];omega)
theorem K5(n d g:Int)(w:World)(nX:0<=n)(gc:n<=9223372036854775807)(om:1<=d)(kf:d<=9223372036854775807)(hg:Hid (g=(Int.gcd n d:Int)))(bD:1<=g)
  (hq0:0<=n/g) (hq1:n/g<=9223372036854775807) (hr0:0<=d/g) (AX:d/g<=9223372036854775807):
  Calls Tryz.prog 141 #[.int .i64 n,.int .i64 d] w (aN w (if bU (n/g) (d/g)=true then .tuple #[.agg #[.int .i64 (n/g),.int .i64 (d/g)],.int .i64 0] else .tuple #[.agg #[.int .i64 0,.int .i64 0],.int .i64 2])):=by
 by_cases hv:bU (n/g) (d/g)=true
 ·rw[if_pos hv];go_enter Tryz.func141,Tryz.ntmps141;go_wp2_with (go_at_call 142;refine(mn _ _ _ (by omega) (by omega) (by omega) (by omega)).mono ?_;rw[<-hg.out];rintro e w' ⟨rfl,O,dd,rfl⟩);go_region;all_goals go_wp2_with (go_at_call 82;refine(eK _ _ _ (by omega) (by omega) (by omega) (by omega)).mono ?_;rintro e w' ⟨rfl,O',dd',rfl⟩)
  exact bodyPost_ret (v:= .tuple #[.agg #[.int .i64 (n/g),.int .i64 (d/g)],.int .i64 0]) (by simp[results,Tryz.results141,go_sem]) rfl
   ⟨rfl,grr⟩
 rw[if_neg hv];go_enter Tryz.func141,Tryz.ntmps141;go_wp2_with (go_at_call 142;refine(mn _ _ _ (by omega) (by omega) (by omega) (by omega)).mono ?_;rw[<-hg.out];rintro e w' ⟨rfl,O,dd,rfl⟩);go_region;all_goals go_wp2_with (go_at_call 82;refine(eK _ _ _ (by omega) (by omega) (by omega) (by omega)).mono ?_;rintro e w' ⟨rfl,O',dd',rfl⟩)
 exact bodyPost_ret (v:= .tuple #[.agg #[.int .i64 0,.int .i64 0],.int .i64 2]) (by simp[results,Tryz.results141,go_sem]) rfl
  ⟨rfl,grr⟩
theorem Co(n d:Int)(w:World)(nX: -9223372036854775808<=n)(gc:n<=9223372036854775807)(om: -9223372036854775808<=d)(kf:d<=9223372036854775807):
  Calls Tryz.prog 141 #[.int .i64 n,.int .i64 d] w (aN w (.tuple #[.agg #[.int .i64 (gQ n d),.int .i64 (iw n d)],.int .i64 (kI n d)])):=by
 by_cases h:0<=n/\1<=d
 ·have hg:=iu n d h.2;have h1:=dq n (Int.gcd n d) h.1 hg.1;have h2:=dq d (Int.gcd n d) (by omega) hg.1;have:=K5 n d (Int.gcd n d) w h.1 gc h.2 kf (aa rfl) hg.1 h1.1 (by omega) h2.1 (by omega);have e:kq n d=bU (n/Int.gcd n d) (d/Int.gcd n d):=by simp[kq,h.1,h.2]
  by_cases hv:bU (n/Int.gcd n d) (d/Int.gcd n d)=true
  ·rw[if_pos hv] at this;simp only[gQ,iw,kI,e,if_pos hv];exact this
  rw[if_neg hv] at this;simp only[gQ,iw,kI,e,if_neg hv];exact this
 have e:kq n d=false:=by
  have:decide (0<=n)=false∨decide (1<=d)=false:=by simp;omega
  rcases this with h|h<;>simp[kq,h]
 simp only[gQ,iw,kI,e,Bool.false_eq_true,if_false];clear e;by_cases h1:n<0;all_goals
  go_enter Tryz.func141,Tryz.ntmps141;go_wp2_with fail;exact bodyPost_ret (v:= .tuple #[.agg #[.int .i64 0,.int .i64 0],.int .i64 2]) (by simp[results,Tryz.results141,go_sem]) rfl
   ⟨rfl,grr⟩
def nZ(n d k:Int):Prop:=144115188075855872/(k/Int.gcd k d)<n
instance (n d k:Int):Decidable (nZ n d k):=by unfold nZ;infer_instance
def tmN(n d k:Int):Int:=if nZ n d k then -1 else n*(k/Int.gcd k d)
def tmD(n d k:Int):Int:=if nZ n d k then 1 else d/Int.gcd k d
theorem dX{n d:Int}(h:bU n d=true):0<=n/\n<=144115188075855872/\1<=d/\d<=16777216/\Int.gcd n d=1:=by simp[bU] at h;omega
theorem Jc(M q n:Int)(hq:1<=q)(hn:0<=n)(h:¬M/q<n):0<=n*q/\n*q<=M:=
 ⟨Int.mul_nonneg hn (by omega),(Int.le_ediv_iff_mul_le (by omega)).1 (by omega)⟩
theorem Mi(n d k c:Int)(w:World)(bk br:Nat)(hk:w.cell? ⟨bk,0,none⟩=some (.int .i64 k))(hn:w.cell? ⟨br,0,none⟩=some (.int .i64 n))(hd:w.cell? ⟨br,1,none⟩=some (.int .i64 d))
  (nX:0<=n) (_hn1:n<=144115188075855872) (om:1<=d) (kf:d<=16777216) (gH:1<=k) (ky:k<=64) (hc:Hid (c=(Int.gcd k d:Int))) (oC:1<=c) (hq:1<=k/c) (hq1:k/c<=64):
  Calls Tryz.prog 191 #[.pointer (some ⟨bk,0,none⟩),.pointer (some ⟨br,0,none⟩)] w
   (aN w (if 144115188075855872/(k/c)<n then .tuple #[.int .i64 (-1),.int .i64 1] else .tuple #[.int .i64 (n*(k/c)),.int .i64 (d/c)])):=by
 have b1:=ae hk;have b2:=ae hn;by_cases uZ:144115188075855872/(k/c)<n
 ·rw[if_pos uZ];go_enter Tryz.func191,Tryz.ntmps191;go_wp2_with (go_at_call 132;refine(qp _ _ _ (by omega) (by omega) (by omega) (by omega)).mono ?_;rw[<-hc.out];rintro e w' ⟨rfl,O,dd,rfl⟩)
  go_quiet (fail)
  go_wp2;go_ret2;exact⟨rfl,grr⟩
 rw[if_neg uZ];have hm:=Jc _ (k/c) n hq nX uZ;have jx:=hm.1;have me:=hm.2;clear hm;have hdc:=dq d c (by omega) oC;have hdc0:=hdc.1;have hdc1:=hdc.2;clear hdc;go_enter Tryz.func191,Tryz.ntmps191;go_wp2_with (go_at_call 132;refine(qp _ _ _ (by omega) (by omega) (by omega) (by omega)).mono ?_;rw[<-hc.out];rintro e w' ⟨rfl,O,dd,rfl⟩)
 go_quiet (fail)
 go_wp2
 go_quiet (fail)
 go_wp2;go_ret2;exact⟨rfl,grr⟩
theorem lY(k d:Int)(hk:1<=k):1<=(Int.gcd k d:Int)/\(Int.gcd k d:Int)<=k:=by rw[Int.gcd_comm];exact iu d k hk
theorem pg(k d:Int)(hk:1<=k):1<=k/(Int.gcd k d:Int)/\k/(Int.gcd k d:Int)<=k:=by have h:=lY k d hk;refine⟨?_,(dq k _ (by omega) h.1).2⟩;exact(Int.le_ediv_iff_mul_le (by omega)).2 (by omega)
theorem OR(n d k:Int)(w:World)(bk br:Nat)(hk:w.cell? ⟨bk,0,none⟩=some (.int .i64 k))(hn:w.cell? ⟨br,0,none⟩=some (.int .i64 n))(hd:w.cell? ⟨br,1,none⟩=some (.int .i64 d))
  (nX:0<=n) (gc:n<=144115188075855872) (om:1<=d) (kf:d<=16777216) (gH:1<=k) (ky:k<=64):
  Calls Tryz.prog 191 #[.pointer (some ⟨bk,0,none⟩),.pointer (some ⟨br,0,none⟩)] w
   (aN w (.tuple #[.int .i64 (tmN n d k),.int .i64 (tmD n d k)])):=by
 have h1:=lY k d gH;have h2:=pg k d gH;have:=Mi n d k (Int.gcd k d) w bk br hk hn hd nX gc om kf gH ky (aa rfl) h1.1 h2.1 (by omega);by_cases hb:nZ n d k
 ·simp only[tmN,tmD,if_pos hb];rw[if_pos (show 144115188075855872/(k/(Int.gcd k d:Int))<n from hb)] at this;exact this
 simp only[tmN,tmD,if_neg hb];rw[if_neg (show¬144115188075855872/(k/(Int.gcd k d:Int))<n from hb)] at this;exact this
def eu(n d k:Int):Bool:=bU n d&&decide (1<=k)&&decide (k<=64)
def tE(n d k:Int):Int:=if eu n d k=true then kI (tmN n d k) (tmD n d k) else if bU n d=true then 2 else 1
def tN(n d k:Int):Int:=if eu n d k=true then gQ (tmN n d k) (tmD n d k) else 0
def tD(n d k:Int):Int:=if eu n d k=true then iw (tmN n d k) (tmD n d k) else 0
theorem Rb(n d k:Int)(nX:0<=n)(om:1<=d)(kf:d<=16777216)(gH:1<=k):
  -1<=tmN n d k/\tmN n d k<=144115188075855872/\0<=tmD n d k/\tmD n d k<=16777216:=by
 have h1:=lY k d gH;have h2:=pg k d gH;unfold tmN tmD;by_cases hb:nZ n d k
 ·simp[if_pos hb]
 have:=Jc _ _ n h2.1 nX hb;have h3:=dq d (Int.gcd k d) (by omega) h1.1;simp only[if_neg hb];omega
theorem Ss(n d k:Int)(w:World)(nX: -9223372036854775808<=n)(gc:n<=9223372036854775807)(om: -9223372036854775808<=d)(kf:d<=9223372036854775807):
  Calls Tryz.prog 174 #[.agg #[.int .i64 n,.int .i64 d],.int .i64 k] w (aN w (.tuple #[.agg #[.int .i64 (tN n d k),.int .i64 (tD n d k)],.int .i64 (tE n d k)])):=by
 by_cases hv:bU n d=true
 ·by_cases hk:1<=k/\k<=64
  ·have gH:=hk.1;have ky:=hk.2;have e:eu n d k=true:=by simp[eu,hv,gH,ky]
   simp only[tN,tD,tE,if_pos e];have HV:=dX hv;obtain⟨v1,v2,v3,v4,v5⟩:=HV;have V5:=aa v5;have B:=Rb n d k v1 v3 v4 gH;obtain⟨q1,q2,q3,q4⟩:=B;clear e hk v5;go_enter Tryz.func174,Tryz.ntmps174;go_wp2_with (first
    |(go_at_call 67;refine(j6 _ _ _ (by omega) (by omega) (by omega) (by omega)).mono ?_;rintro e w' ⟨rfl,O1,d1,rfl⟩)
    |(go_at_call 191;refine(OR n d k _ _ _ (by simp) (by simp) (by simp) v1 v2 v3 v4 gH ky).mono ?_;rintro e w' ⟨rfl,O2,d2,rfl⟩)
    |(go_at_call 198;refine(Nd _ _ _ (by omega) (by omega) (by omega) (by omega)).mono ?_;rintro e w' ⟨rfl,O3,d3,rfl⟩)
    |go_in)
   refine bodyPost_ret (v:= .tuple #[.agg #[.int .i64 (gQ (tmN n d k) (tmD n d k)),.int .i64 (iw (tmN n d k) (tmD n d k))],.int .i64 (kI (tmN n d k) (tmD n d k))]) (by simp[results,Tryz.results189,go_sem]) rfl ?_;go_wp2_with fail;exact bodyPost_ret (v:= .tuple #[.agg #[.int .i64 (gQ (tmN n d k) (tmD n d k)),.int .i64 (iw (tmN n d k) (tmD n d k))],.int .i64 (kI (tmN n d k) (tmD n d k))]) (by simp[results,Tryz.results174,go_sem]) rfl
    ⟨rfl,grr⟩
  have e:eu n d k=false:=by
   have:decide (1<=k)=false∨decide (k<=64)=false:=by simp;omega
   rcases this with h|h<;>simp[eu,h]
  simp only[tN,tD,tE,e,hv,Bool.false_eq_true,if_false,if_true];clear e;by_cases h1:k<1;all_goals
   go_enter Tryz.func174,Tryz.ntmps174;go_wp2_with (first
    |(go_at_call 67;refine(j6 _ _ _ (by omega) (by omega) (by omega) (by omega)).mono ?_;rintro e w' ⟨rfl,O1,d1,rfl⟩)
    |go_in)
   refine bodyPost_ret (v:= .tuple #[.agg #[.int .i64 0,.int .i64 0],.int .i64 2]) (by simp[results,Tryz.results189,go_sem]) rfl ?_;go_wp2_with fail;exact bodyPost_ret (v:= .tuple #[.agg #[.int .i64 0,.int .i64 0],.int .i64 2]) (by simp[results,Tryz.results174,go_sem]) rfl
    ⟨rfl,grr⟩
 have e:eu n d k=false:=by simp[eu,hv]
 simp only[tN,tD,tE,e,hv,Bool.false_eq_true,if_false];clear e;go_enter Tryz.func174,Tryz.ntmps174;go_wp2_with (first
  |(go_at_call 67;refine(j6 _ _ _ (by omega) (by omega) (by omega) (by omega)).mono ?_;rintro e w' ⟨rfl,O1,d1,rfl⟩)
  |go_in)
 refine bodyPost_ret (v:= .tuple #[.agg #[.int .i64 0,.int .i64 0],.int .i64 1]) (by simp[results,Tryz.results189,go_sem]) rfl ?_;go_wp2_with fail;exact bodyPost_ret (v:= .tuple #[.agg #[.int .i64 0,.int .i64 0],.int .i64 1]) (by simp[results,Tryz.results174,go_sem]) rfl
  ⟨rfl,grr⟩
def ovN(n k:Int):Int:=n/Int.gcd n k
def ovD(n d k:Int):Int:=d*(k/Int.gcd n k)
theorem PA(n d k c:Int)(w:World)(bk br:Nat)(hk:w.cell? ⟨bk,0,none⟩=some (.int .i64 k))(hn:w.cell? ⟨br,0,none⟩=some (.int .i64 n))(hd:w.cell? ⟨br,1,none⟩=some (.int .i64 d))
  (nX:0<=n) (gc:n<=144115188075855872) (_hd0:1<=d) (_hd1:d<=16777216) (gH:1<=k) (ky:k<=64) (hc:Hid (c=(Int.gcd n k:Int))) (oC:1<=c) (_hq:1<=k/c) (_hq1:k/c<=64) (jx:0<=d*(k/c)) (me:d*(k/c)<=1073741824):
  Calls Tryz.prog 190 #[.pointer (some ⟨br,0,none⟩),.pointer (some ⟨bk,0,none⟩)] w
   (aN w (.tuple #[.int .i64 (n/c),.int .i64 (d*(k/c))])):=by
 have b1:=ae hk;have b2:=ae hn;have hdc:=dq n c (by omega) oC;have hdc0:=hdc.1;have hdc1:=hdc.2;clear hdc;go_enter Tryz.func190,Tryz.ntmps190;go_wp2_with (go_at_call 132;refine(qp _ _ _ (by omega) (by omega) (by omega) (by omega)).mono ?_;rw[<-hc.out];rintro e w' ⟨rfl,O,dd,rfl⟩)
 go_quiet (fail)
 go_wp2;go_ret2;exact⟨rfl,grr⟩
theorem Gw(n d k:Int)(om:1<=d)(kf:d<=16777216)(gH:1<=k)(ky:k<=64):
  1<=k/(Int.gcd n k:Int)/\k/(Int.gcd n k:Int)<=64/\0<=d*(k/(Int.gcd n k:Int))/\d*(k/(Int.gcd n k:Int))<=1073741824:=by
 have h2:=pg k n gH;rw[Int.gcd_comm] at h2;have h3:d*(k/(Int.gcd n k:Int))<=16777216*64:=Int.mul_le_mul kf (by omega) (by omega) (by omega);have h4:0<=d*(k/(Int.gcd n k:Int)):=Int.mul_nonneg (by omega) (by omega);omega
theorem Rf(n d k:Int)(w:World)(bk br:Nat)(hk:w.cell? ⟨bk,0,none⟩=some (.int .i64 k))(hn:w.cell? ⟨br,0,none⟩=some (.int .i64 n))(hd:w.cell? ⟨br,1,none⟩=some (.int .i64 d))
  (nX:0<=n) (gc:n<=144115188075855872) (om:1<=d) (kf:d<=16777216) (gH:1<=k) (ky:k<=64):
  Calls Tryz.prog 190 #[.pointer (some ⟨br,0,none⟩),.pointer (some ⟨bk,0,none⟩)] w
   (aN w (.tuple #[.int .i64 (ovN n k),.int .i64 (ovD n d k)])):=by
 have h1:=iu n k gH;have h2:=Gw n d k om kf gH ky;exact PA n d k (Int.gcd n k) w bk br hk hn hd nX gc om kf gH ky (aa rfl) h1.1 h2.1 h2.2.1 h2.2.2.1 h2.2.2.2
def oE(n d k:Int):Int:=if eu n d k=true then kI (ovN n k) (ovD n d k) else if bU n d=true then 2 else 1
def oN(n d k:Int):Int:=if eu n d k=true then gQ (ovN n k) (ovD n d k) else 0
def oD(n d k:Int):Int:=if eu n d k=true then iw (ovN n k) (ovD n d k) else 0
theorem Ui(n d k:Int)(w:World)(nX: -9223372036854775808<=n)(gc:n<=9223372036854775807)(om: -9223372036854775808<=d)(kf:d<=9223372036854775807):
  Calls Tryz.prog 173 #[.agg #[.int .i64 n,.int .i64 d],.int .i64 k] w (aN w (.tuple #[.agg #[.int .i64 (oN n d k),.int .i64 (oD n d k)],.int .i64 (oE n d k)])):=by
 by_cases hv:bU n d=true
 ·by_cases hk:1<=k/\k<=64
  ·have gH:=hk.1;have ky:=hk.2;have e:eu n d k=true:=by simp[eu,hv,gH,ky]
   simp only[oN,oD,oE,if_pos e];have HV:=dX hv;obtain⟨v1,v2,v3,v4,v5⟩:=HV;have V5:=aa v5;have B:=Gw n d k v3 v4 gH ky;have q3:0<=ovD n d k:=B.2.2.1;have q4:ovD n d k<=1073741824:=B.2.2.2;have q1:0<=ovN n k:=(dq n _ v1 (iu n k gH).1).1;have q2:ovN n k<=n:=(dq n _ v1 (iu n k gH).1).2;clear B;clear e hk v5;go_enter Tryz.func173,Tryz.ntmps173;go_wp2_with (first
    |(go_at_call 67;refine(j6 _ _ _ (by omega) (by omega) (by omega) (by omega)).mono ?_;rintro e w' ⟨rfl,O1,d1,rfl⟩)
    |(go_at_call 190;refine(Rf n d k _ _ _ (by simp) (by simp) (by simp) v1 v2 v3 v4 gH ky).mono ?_;rintro e w' ⟨rfl,O2,d2,rfl⟩)
    |(go_at_call 198;refine(Nd _ _ _ (by omega) (by omega) (by omega) (by omega)).mono ?_;rintro e w' ⟨rfl,O3,d3,rfl⟩)
    |go_in)
   refine bodyPost_ret (v:= .tuple #[.agg #[.int .i64 (gQ (ovN n k) (ovD n d k)),.int .i64 (iw (ovN n k) (ovD n d k))],.int .i64 (kI (ovN n k) (ovD n d k))]) (by simp[results,Tryz.results189,go_sem]) rfl ?_;go_wp2_with fail;exact bodyPost_ret (v:= .tuple #[.agg #[.int .i64 (gQ (ovN n k) (ovD n d k)),.int .i64 (iw (ovN n k) (ovD n d k))],.int .i64 (kI (ovN n k) (ovD n d k))]) (by simp[results,Tryz.results173,go_sem]) rfl
    ⟨rfl,grr⟩
  have e:eu n d k=false:=by
   have:decide (1<=k)=false∨decide (k<=64)=false:=by simp;omega
   rcases this with h|h<;>simp[eu,h]
  simp only[oN,oD,oE,e,hv,Bool.false_eq_true,if_false,if_true];clear e;by_cases h1:k<1;all_goals
   go_enter Tryz.func173,Tryz.ntmps173;go_wp2_with (first
    |(go_at_call 67;refine(j6 _ _ _ (by omega) (by omega) (by omega) (by omega)).mono ?_;rintro e w' ⟨rfl,O1,d1,rfl⟩)
    |go_in)
   refine bodyPost_ret (v:= .tuple #[.agg #[.int .i64 0,.int .i64 0],.int .i64 2]) (by simp[results,Tryz.results189,go_sem]) rfl ?_;go_wp2_with fail;exact bodyPost_ret (v:= .tuple #[.agg #[.int .i64 0,.int .i64 0],.int .i64 2]) (by simp[results,Tryz.results173,go_sem]) rfl
    ⟨rfl,grr⟩
 have e:eu n d k=false:=by simp[eu,hv]
 simp only[oN,oD,oE,e,hv,Bool.false_eq_true,if_false];clear e;go_enter Tryz.func173,Tryz.ntmps173;go_wp2_with (first
  |(go_at_call 67;refine(j6 _ _ _ (by omega) (by omega) (by omega) (by omega)).mono ?_;rintro e w' ⟨rfl,O1,d1,rfl⟩)
  |go_in)
 refine bodyPost_ret (v:= .tuple #[.agg #[.int .i64 0,.int .i64 0],.int .i64 1]) (by simp[results,Tryz.results189,go_sem]) rfl ?_;go_wp2_with fail;exact bodyPost_ret (v:= .tuple #[.agg #[.int .i64 0,.int .i64 0],.int .i64 1]) (by simp[results,Tryz.results173,go_sem]) rfl
  ⟨rfl,grr⟩
def fB(n d lo hi:Int):Bool:=bU n d&&(decide (lo<=n/d)&&(decide (n/d<hi)||decide (n/d=hi)&&decide (n%d=0)))
theorem uq(n d lo hi:Int)(w:World)(nX: -9223372036854775808<=n)(gc:n<=9223372036854775807)(om: -9223372036854775808<=d)(kf:d<=9223372036854775807):
  Calls Tryz.prog 68 #[.agg #[.int .i64 n,.int .i64 d],.int .i64 lo,.int .i64 hi] w (aN w (.bool (fB n d lo hi))):=by
 by_cases hv:bU n d=true
 ·obtain⟨v1,v2,v3,v4,v5⟩:=dX hv;clear v5;go_enter Tryz.func68,Tryz.ntmps68;go_wp2_with (go_at_call 67;refine(j6 _ _ _ (by omega) (by omega) (by omega) (by omega)).mono ?_;rintro e w' ⟨rfl,O1,D1,rfl⟩)
  go_quiet (fail)
  go_wp2;all_goals go_ret
  all_goals refine⟨ai ?_,grr⟩
  all_goals (rw[Bool.eq_iff_iff];simp[fB,hv];try omega)
 go_enter Tryz.func68,Tryz.ntmps68;go_wp2_with (go_at_call 67;refine(j6 _ _ _ (by omega) (by omega) (by omega) (by omega)).mono ?_;rintro e w' ⟨rfl,O1,D1,rfl⟩);go_ret;exact⟨ai (by simp[fB,hv]),grr⟩
end
theorem sx(a g:Int)(h:g ∣ a):a/g*g=a:=Int.ediv_mul_cancel h
theorem zQ(n d:Int)(hn:0<=n)(hd:1<=d):
  kq n d=true↔n/Int.gcd n d<=144115188075855872/\d/Int.gcd n d<=16777216:=by
 have hg:=iu n d hd;have h1:=dq n (Int.gcd n d) hn hg.1;have h2:1<=d/(Int.gcd n d:Int):=(Int.le_ediv_iff_mul_le (by omega)).2 (by omega);have h3:Int.gcd (n/Int.gcd n d) (d/Int.gcd n d)=1:=by
  rw[Int.gcd_ediv (Int.gcd_dvd_left n d) (Int.gcd_dvd_right n d)];have:((Int.gcd n d:Int)).natAbs=Int.gcd n d:=by omega
  rw[this];exact Nat.div_self (by omega)
 simp only[kq,bU,h3,Bool.and_eq_true,decide_eq_true_eq];simp;omega
theorem Ut(n d:Int)(hn:0<=n)(gc:n<=144115188075855872)(hd:1<=d)(kf:d<=16777216):kq n d=true:=by have hg:=iu n d hd;have h1:=dq n (Int.gcd n d) hn hg.1;have h2:=dq d (Int.gcd n d) (by omega) hg.1;exact(zQ n d hn hd).2 ⟨by omega,by omega⟩
theorem Xu(n d:Int)(h:kq n d=true):bU (gQ n d) (iw n d)=true/\gQ n d*d=n*iw n d/\kI n d=0:=by have h':=h;simp only[kq,Bool.and_eq_true,decide_eq_true_eq] at h';simp only[gQ,iw,kI,h,if_true];refine⟨h'.2,?_,trivial⟩;have h1:=sx n _ (Int.gcd_dvd_left n d);have h2:=sx d _ (Int.gcd_dvd_right n d);generalize n/(Int.gcd n d:Int)=a at*;generalize d/(Int.gcd n d:Int)=b at*;generalize (Int.gcd n d:Int)=g at*;rw[<-h1,<-h2,Int.mul_assoc,Int.mul_comm b g]
section
open Go.RowKit
def qJ(n d:Int):Int:=if bU n d=true then n/d else 0
theorem wn(n d:Int)(w:World)(nX: -9223372036854775808<=n)(gc:n<=9223372036854775807)(om: -9223372036854775808<=d)(kf:d<=9223372036854775807):
  Calls Tryz.prog 49 #[.agg #[.int .i64 n,.int .i64 d]] w (aN w (.int .i64 (qJ n d))):=by
 by_cases hv:bU n d=true
 ·obtain⟨v1,v2,v3,v4,v5⟩:=dX hv;clear v5;have a1:=dq n d v1 v3;go_enter Tryz.func49,Tryz.ntmps49;go_wp2_with (go_at_call 82;refine(eK _ _ _ (by omega) (by omega) (by omega) (by omega)).mono ?_;rintro e w' ⟨rfl,O1,D1,rfl⟩);go_ret;exact⟨bO (by rw[qJ,if_pos hv]),grr⟩
 go_enter Tryz.func49,Tryz.ntmps49;go_wp2_with (go_at_call 82;refine(eK _ _ _ (by omega) (by omega) (by omega) (by omega)).mono ?_;rintro e w' ⟨rfl,O1,D1,rfl⟩);go_ret;exact⟨bO (by rw[qJ,if_neg hv]),grr⟩
theorem nC(n d lo hi:Int)(w:World)(nX: -9223372036854775808<=n)(gc:n<=9223372036854775807)(om: -9223372036854775808<=d)(kf:d<=9223372036854775807):
  Calls Tryz.prog 83 #[.agg #[.int .i64 n,.int .i64 d],.int .i64 lo,.int .i64 hi] w (aN w (.bool (fB n d lo hi))):=by
 by_cases hv:bU n d=true
 ·obtain⟨v1,v2,v3,v4,v5⟩:=dX hv;clear v5;go_enter Tryz.func83,Tryz.ntmps83;go_wp2_with (go_at_call 82;refine(eK _ _ _ (by omega) (by omega) (by omega) (by omega)).mono ?_;rintro e w' ⟨rfl,O1,D1,rfl⟩);all_goals go_ret
  all_goals refine⟨ai ?_,grr⟩
  all_goals (rw[Bool.eq_iff_iff];simp[fB,hv];try omega)
 go_enter Tryz.func83,Tryz.ntmps83;go_wp2_with (go_at_call 82;refine(eK _ _ _ (by omega) (by omega) (by omega) (by omega)).mono ?_;rintro e w' ⟨rfl,O1,D1,rfl⟩);go_ret;exact⟨ai (by simp[fB,hv]),grr⟩
theorem Tg(a b c:Int)(ha:0<=a)(hb:1<=b)(hc:1<=c):kI (a*c) (b*c)=kI a b/\gQ (a*c) (b*c)=gQ a b/\iw (a*c) (b*c)=iw a b:=by
 have hg:(Int.gcd (a*c) (b*c):Int)=Int.gcd a b*c:=by
  rw[Int.gcd_mul_right];have:((c.natAbs:Nat):Int)=c:=by omega
  rw[Int.natCast_mul,this]
 have tY:=iu a b hb;have e1:a*c/(Int.gcd a b*c)=a/Int.gcd a b:=Int.mul_ediv_mul_of_pos_left a (Int.gcd a b) (by omega);have e2:b*c/(Int.gcd a b*c)=b/Int.gcd a b:=Int.mul_ediv_mul_of_pos_left b (Int.gcd a b) (by omega);have a0:0<=a*c:=Int.mul_nonneg ha (by omega);have b0:1<=b*c:=Int.mul_pos (by omega) (by omega);have ok:kq (a*c) (b*c)=kq a b:=by rw[Bool.eq_iff_iff,zQ _ _ a0 b0,zQ a b ha hb,hg,e1,e2]
 simp[kI,gQ,iw,ok,hg,e1,e2]
theorem Dr(n d k:Int)(h0:0<=n)(hd:1<=d)(hk:1<=k):kI n (d*k)=kI (ovN n k) (ovD n d k)/\gQ n (d*k)=gQ (ovN n k) (ovD n d k)/\iw n (d*k)=iw (ovN n k) (ovD n d k):=by
 have hc:=iu n k hk;have g1:=sx k _ (Int.gcd_dvd_right n k);have g2:=sx n _ (Int.gcd_dvd_left n k);have g5:1<=k/(Int.gcd n k:Int):=(Int.le_ediv_iff_mul_le (by omega)).2 (by omega);have s:=Tg (ovN n k) (ovD n d k) (Int.gcd n k) (dq n _ h0 hc.1).1 (Int.mul_pos (by omega) (by omega)) hc.1;have e1:ovN n k*(Int.gcd n k:Int)=n:=g2;have e2:ovD n d k*(Int.gcd n k:Int)=d*k:=by unfold ovD;rw[Int.mul_assoc,g1]
 rw[e1,e2] at s;exact s
theorem nF(k:Int)(w:World):Calls Tryz.prog 140 #[.int .i64 k] w (aN w (.bool (decide (1<=k)&&decide (k<=64)))):=by
 go_enter Tryz.func140,Tryz.ntmps140;go_wp2_with fail;all_goals go_ret
 all_goals refine⟨ai ?_,gfl _⟩
 all_goals (rw[Bool.eq_iff_iff];simp;try omega)
theorem MP(n d k:Int)(w:World)(nX: -9223372036854775808<=n)(gc:n<=9223372036854775807)(om: -9223372036854775808<=d)(kf:d<=9223372036854775807):
  Calls Tryz.prog 79 #[.agg #[.int .i64 n,.int .i64 d],.int .i64 k] w (aN w (.tuple #[.agg #[.int .i64 (oN n d k),.int .i64 (oD n d k)],.int .i64 (oE n d k)])):=by
 by_cases hv:bU n d=true
 ·by_cases hk:1<=k/\k<=64
  ·have gH:=hk.1;have ky:=hk.2;have e:eu n d k=true:=by simp[eu,hv,gH,ky]
   have fk:(decide (1<=k)&&decide (k<=64))=true:=by simp[gH,ky]
   simp only[oN,oD,oE,if_pos e];obtain⟨v1,v2,v3,v4, -⟩:=dX hv;obtain⟨o1,o2,o3⟩:=Dr n d k v1 v3 gH;rw[<-o1,<-o2,<-o3];have m0:1<=d*k:=Int.mul_pos (by omega) (by omega);have m1:d*k<=16777216*64:=Int.mul_le_mul v4 ky (by omega) (by omega);clear e hk o1 o2 o3;go_enter Tryz.func79,Tryz.ntmps79;go_wp2_with (first
    |(go_at_call 82;refine(eK _ _ _ (by omega) (by omega) (by omega) (by omega)).mono ?_;rintro e w' ⟨rfl,O1,d1,rfl⟩)
    |(go_at_call 140;refine(nF _ _).mono ?_;rw[fk];rintro e w' ⟨rfl,O2,d2,rfl⟩)
    |(go_at_call 141;refine(Co _ _ _ (by omega) (by omega) (by omega) (by omega)).mono ?_;rintro e w' ⟨rfl,O3,d3,rfl⟩))
   exact bodyPost_ret (v:= .tuple #[.agg #[.int .i64 (gQ n (d*k)),.int .i64 (iw n (d*k))],.int .i64 (kI n (d*k))]) (by simp[results,Tryz.results79,go_sem]) rfl
    ⟨rfl,grr⟩
  have e:eu n d k=false:=by
   have:decide (1<=k)=false∨decide (k<=64)=false:=by simp;omega
   rcases this with h|h<;>simp[eu,h]
  have fk:(decide (1<=k)&&decide (k<=64))=false:=by
   have:decide (1<=k)=false∨decide (k<=64)=false:=by simp;omega
   rcases this with h|h<;>simp[h]
  simp only[oN,oD,oE,e,hv,Bool.false_eq_true,if_false,if_true];clear e;go_enter Tryz.func79,Tryz.ntmps79;go_wp2_with (first
   |(go_at_call 82;refine(eK _ _ _ (by omega) (by omega) (by omega) (by omega)).mono ?_;rintro e w' ⟨rfl,O1,d1,rfl⟩)
   |(go_at_call 140;refine(nF _ _).mono ?_;rw[fk];rintro e w' ⟨rfl,O2,d2,rfl⟩))
  exact bodyPost_ret (v:= .tuple #[.agg #[.int .i64 0,.int .i64 0],.int .i64 2]) (by simp[results,Tryz.results79,go_sem]) rfl
   ⟨rfl,grr⟩
 have e:eu n d k=false:=by simp[eu,hv]
 simp only[oN,oD,oE,e,hv,Bool.false_eq_true,if_false];clear e;go_enter Tryz.func79,Tryz.ntmps79;go_wp2_with (go_at_call 82;refine(eK _ _ _ (by omega) (by omega) (by omega) (by omega)).mono ?_;rintro e w' ⟨rfl,O1,d1,rfl⟩);exact bodyPost_ret (v:= .tuple #[.agg #[.int .i64 0,.int .i64 0],.int .i64 1]) (by simp[results,Tryz.results79,go_sem]) rfl
  ⟨rfl,grr⟩
theorem IF(n d k c:Int)(w:World)(v1:0<=n)(v2:n<=144115188075855872)(v3:1<=d)(v4:d<=16777216)(gH:1<=k)(ky:k<=64)(hv:bU n d=true)(hc:Hid ((Int.gcd k d:Int)=c))(c0:1<=c)(c1:c<=k)
  (k0:1<=k/c) (k1:k/c<=k) (d0:1<=d/c) (d1:d/c<=d) (fk:(decide (1<=k)&&decide (k<=64))=true) (q0:0<=144115188075855872/(k/c)):
  Calls Tryz.prog 80 #[.agg #[.int .i64 n,.int .i64 d],.int .i64 k] w (aN w (if 144115188075855872/(k/c)<n then .tuple #[.agg #[.int .i64 0,.int .i64 0],.int .i64 2] else .tuple #[.agg #[.int .i64 (gQ (n*(k/c)) (d/c)),.int .i64 (iw (n*(k/c)) (d/c))],.int .i64 (kI (n*(k/c)) (d/c))])):=by
 by_cases hb:144115188075855872/(k/c)<n
 ·rw[if_pos hb];go_enter Tryz.func80,Tryz.ntmps80;go_wp2_with (first
   |(go_at_call 82;refine(eK _ _ _ (by omega) (by omega) (by omega) (by omega)).mono ?_;rintro e w' ⟨rfl,O1,d1,rfl⟩)
   |(go_at_call 140;refine(nF _ _).mono ?_;rw[fk];rintro e w' ⟨rfl,O2,d2,rfl⟩)
   |(go_at_call 142;refine(mn _ _ _ (by omega) (by omega) (by omega) (by omega)).mono ?_;rw[hc.out];rintro e w' ⟨rfl,O3,d3,rfl⟩))
  go_quiet (fail)
  go_wp2_with fail;exact bodyPost_ret (v:= .tuple #[.agg #[.int .i64 0,.int .i64 0],.int .i64 2]) (by simp[results,Tryz.results80,go_sem]) rfl
   ⟨rfl,by repeat(first|with_reducible exact gfl _|with_reducible refine Gr.xt _ _ ?_|with_reducible refine Gr.alloc _ ?_|with_reducible refine Gr.drewN _ ?_|with_reducible refine Gr.setCell (Nat.le_succ _) _ ?_)⟩
 rw[if_neg hb];obtain⟨m0,m1⟩:=Jc _ _ n k0 v1 hb;go_enter Tryz.func80,Tryz.ntmps80;go_wp2_with (first
  |(go_at_call 82;refine(eK _ _ _ (by omega) (by omega) (by omega) (by omega)).mono ?_;rintro e w' ⟨rfl,O1,d1,rfl⟩)
  |(go_at_call 140;refine(nF _ _).mono ?_;rw[fk];rintro e w' ⟨rfl,O2,d2,rfl⟩)
  |(go_at_call 142;refine(mn _ _ _ (by omega) (by omega) (by omega) (by omega)).mono ?_;rw[hc.out];rintro e w' ⟨rfl,O3,d3,rfl⟩))
 go_quiet (fail)
 go_wp2_with fail;first
  |refine mw 13 (by kernel_rfl) (by kernel_rfl) ?_
  |refine bZ 13 (by kernel_rfl) (by kernel_rfl) ?_
 simp only[List.take_succ_cons,List.take_zero,List.drop_succ_cons,List.drop_zero];repeat(go_big_quiet_step (first|(go_at_call 141;exact bJ (Co _ _ _ (by omega) (by omega) (by omega) (by omega)))))
 refine wpQuiet_nil ?_;rintro _ ⟨⟨O5,d5⟩,rfl⟩;go_wp2_with fail;exact bodyPost_ret (v:= .tuple #[.agg #[.int .i64 (gQ (n*(k/c)) (d/c)),.int .i64 (iw (n*(k/c)) (d/c))],.int .i64 (kI (n*(k/c)) (d/c))]) (by simp[results,Tryz.results80,go_sem]) rfl
  ⟨rfl,by repeat(first|with_reducible exact gfl _|with_reducible refine Gr.xt _ _ ?_|with_reducible refine Gr.alloc _ ?_|with_reducible refine Gr.drewN _ ?_|with_reducible refine Gr.setCell (Nat.le_succ _) _ ?_)⟩
theorem Lo(n d k:Int)(w:World)(nX: -9223372036854775808<=n)(gc:n<=9223372036854775807)(om: -9223372036854775808<=d)(kf:d<=9223372036854775807):
  Calls Tryz.prog 80 #[.agg #[.int .i64 n,.int .i64 d],.int .i64 k] w (aN w (.tuple #[.agg #[.int .i64 (tN n d k),.int .i64 (tD n d k)],.int .i64 (tE n d k)])):=by
 by_cases hv:bU n d=true
 ·by_cases hk:1<=k/\k<=64
  ·have gH:=hk.1;have ky:=hk.2;have e:eu n d k=true:=by simp[eu,hv,gH,ky]
   have fk:(decide (1<=k)&&decide (k<=64))=true:=by simp[gH,ky]
   simp only[tN,tD,tE,if_pos e];obtain⟨v1,v2,v3,v4, -⟩:=dX hv;have b1:=lY k d gH;have b2:=pg k d gH;have b4:=iu k d v3;have b3:1<=d/(Int.gcd k d:Int):=(Int.le_ediv_iff_mul_le (by omega)).2 (by omega);have b5:=dq d (Int.gcd k d) (by omega) b1.1;have q0:0<=144115188075855872/(k/(Int.gcd k d:Int)):=Int.ediv_nonneg (by omega) (by omega);refine(IF n d k _ w v1 v2 v3 v4 gH ky hv (aa rfl) b1.1 b1.2 b2.1 b2.2 b3 b5.2 fk q0).mono ?_;rintro e w' ⟨rfl,hg⟩;refine⟨?_,hg⟩;by_cases hb:nZ n d k
   ·have ij:=hb;unfold nZ at ij;rw[if_pos ij];simp only[tmN,tmD,if_pos hb];rfl
   have ij:=hb;unfold nZ at ij;rw[if_neg ij];simp only[tmN,tmD,if_neg hb]
  have e:eu n d k=false:=by
   have:decide (1<=k)=false∨decide (k<=64)=false:=by simp;omega
   rcases this with h|h<;>simp[eu,h]
  have fk:(decide (1<=k)&&decide (k<=64))=false:=by
   have:decide (1<=k)=false∨decide (k<=64)=false:=by simp;omega
   rcases this with h|h<;>simp[h]
  simp only[tN,tD,tE,e,hv,Bool.false_eq_true,if_false,if_true];clear e;go_enter Tryz.func80,Tryz.ntmps80;go_wp2_with (first
   |(go_at_call 82;refine(eK _ _ _ (by omega) (by omega) (by omega) (by omega)).mono ?_;rintro e w' ⟨rfl,O1,d1,rfl⟩)
   |(go_at_call 140;refine(nF _ _).mono ?_;rw[fk];rintro e w' ⟨rfl,O2,d2,rfl⟩))
  exact bodyPost_ret (v:= .tuple #[.agg #[.int .i64 0,.int .i64 0],.int .i64 2]) (by simp[results,Tryz.results80,go_sem]) rfl
   ⟨rfl,grr⟩
 have e:eu n d k=false:=by simp[eu,hv]
 simp only[tN,tD,tE,e,hv,Bool.false_eq_true,if_false];clear e;go_enter Tryz.func80,Tryz.ntmps80;go_wp2_with (go_at_call 82;refine(eK _ _ _ (by omega) (by omega) (by omega) (by omega)).mono ?_;rintro e w' ⟨rfl,O1,d1,rfl⟩);exact bodyPost_ret (v:= .tuple #[.agg #[.int .i64 0,.int .i64 0],.int .i64 1]) (by simp[results,Tryz.results80,go_sem]) rfl
  ⟨rfl,grr⟩
end
end Go.Proofs.YtlmhkjdkcoiioaaGreatDoor
