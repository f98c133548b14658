/- Lemmas and contracts for the proof of PointAlone (several texts in one, printed by wip/tools/pack.py): Kd. -/
import Derived.Test.YtlmhkjdkcoiioaaGreatDoorAl8pa
import Derived.OpenShut
import Derived.Maps.AppendAt
import Derived.Deep.RegionLaw
import Derived.Deep.AppendLies
import Derived.Deep.DeepCutAuto
set_option maxRecDepth 100000
set_option maxHeartbeats 16000000
set_option linter.unusedVariables false
set_option linter.unusedSimpArgs false
namespace Go.Proofs.YtlmhkjdkcoiioaaGreatDoor
section
open Go.RowKit
def gM(id:Nat):Code->Option (Array Oper)
 | .region i ops _=>bif Nat.beq i id then some ops else none
 | .seq a b=>match gM id a with|some o=>some o|none=>gM id b
 | .cond _ a b=>match gM id a with|some o=>some o|none=>gM id b
 | .block _ c=>gM id c
 | .loop c=>gM id c
 | .scope c=>gM id c
 | .rangeFunc _ _ a b=>match gM id a with|some o=>some o|none=>gM id b
 |_=>none
def fr(id:Nat)(f:Func):Array Oper:=((f.body.bind (gM id))).getD #[]
theorem m6{P:Program}{c c':Code}{Q:Exit->Act->World->Prop}{a:Act}{w:World}(h:c=c')(hw:c.wp P Q a w):c'.wp P Q a w:=h▸hw
section
variable {P:Program} {ops:Array Oper} {md:Region.Mode}
def uR(done:Array Bool):Nat:=done.toList.count false
theorem uk{done:Array Bool}{i:Nat}(h:done.getD i true=false):uR (done.setIfInBounds i true)+1=uR done:=by
 have hi:i<done.size:=by
  rcases Nat.lt_or_ge i done.size with q|q
  ·exact q
  simp[Array.getD,Nat.not_lt.2 q] at h
 have hd:done[i]=false:=by simpa [Array.getD,hi] using h
 unfold uR;rw[Array.toList_setIfInBounds,List.count_set (by simpa using hi)];have h1:done.toList[i]'(by simpa using hi)=false:=by simpa using hd
 have h2:0<done.toList.count false:=List.count_pos_iff.2 (by rw[<-h1];exact List.getElem_mem _);simp only[h1];rw[if_pos (by decide),if_neg (by decide)];omega
theorem Qf{Q:Exit->Act->World->Prop}{Inv:Array Bool->Act->World->Prop}(td:∀done a w,Region.ready md ops done= []->Inv done a w->Q .normal a w)
  (step:∀done a w i,i∈Region.ready md ops done->Inv done a w->wpOp P ops Q i (fun a' w'=>Inv (done.setIfInBounds i true) a' w') a w) (fuel:Nat):
  ∀done a w,uR done<=fuel->Inv done a w->wpAny P md ops Q fuel done a w:=by
 induction fuel with
 |zero=>
  intro done a w hu h;have hr:Region.ready md ops done= []:=by
   rcases hq:Region.ready md ops done with _|⟨i,t⟩
   ·rfl
   have hi:i∈Region.ready md ops done:=by rw[hq];simp
   have:=uk (mem_ready.1 hi).1;omega
  exact⟨hr,td _ _ _ hr h⟩
 |succ fuel ih=>intro done a w hu h;refine⟨fun hr=>td _ _ _ hr h,fun i hi=>?_⟩;have hc:=uk (mem_ready.1 hi).1;exact wpOp_mono (fun a' w' h'=>ih _ a' w' (by omega) h') (step done a w i hi h)
theorem IK{id:Nat}{Q:Exit->Act->World->Prop}{a:Act}{w:World}(Inv:Array Bool->Act->World->Prop)(hm:P.follows .mixedOrders=true)(h0:Inv (Array.replicate ops.size false) a w.drew)
  (step:∀done a w i,i∈Region.ready .any ops done->Inv done a w->wpOp P ops Q i (fun a' w'=>Inv (done.setIfInBounds i true) a' w') a w)
  (td:∀done a w,Region.ready .any ops done= []->Inv done a w->Q .normal a w):(Code.region id ops true).wp P Q a w:=
 wp_region_any hm (Qf td step ops.size _ _ _ (by simp[uR]) h0)
end
section
variable {P:Program}
def xV(o:Oper):List Nat:=(o.after.toList.filter (Region.binds .any)).map (·.on)
def TI(done:Array Bool)(o:Oper):Prop:=∀j,(xV o).contains j=true->done.getD j false=true
theorem Nm{done:Array Bool}{o:Oper}(h:∀e∈o.after,Region.binds .any e=true->done.getD e.on false=true):TI done o:=by intro j hj;simp only[xV,List.contains_iff_mem,List.mem_map,List.mem_filter,Array.mem_toList_iff] at hj;obtain⟨e,⟨h1,h2⟩,rfl⟩:=hj;exact h e h1 h2
def tG(P:Program)(ops:Array Oper)(Q:Exit->Act->World->Prop)(Inv:Array Bool->Act->World->Prop):List Oper->Nat->Prop
 | [],_=>True
 |o::l,i=>(∀done a w,done.size=ops.size->done.getD i true=false->TI done o->Inv done a w->∀K:Act->World->Prop,(∀a' w',Inv (done.setIfInBounds i true) a' w'->K a' w')->if Region.wanted o (yielded ops a.tmps)=true then Oper.wp P o a w K Q else K (a.put o.dst undef) w)/\tG P ops Q Inv l (i+1)
theorem tG.at{ops:Array Oper}{Q:Exit->Act->World->Prop}{Inv:Array Bool->Act->World->Prop}:∀(l:List Oper) (k:Nat),tG P ops Q Inv l k->∀i o,l[i]?=some o->∀done a w,done.size=ops.size->done.getD (k+i) true=false->TI done o->Inv done a w->∀K:Act->World->Prop,(∀a' w',Inv (done.setIfInBounds (k+i) true) a' w'->K a' w')->if Region.wanted o (yielded ops a.tmps)=true then Oper.wp P o a w K Q else K (a.put o.dst undef) w
 | [],_,_,i,o,h=>by simp at h
 |o'::l,k,⟨h0,hs⟩,i,o,h=>by
  cases i with
  |zero=>simp at h;subst h;exact h0
  |succ i=>have:=tG.at l (k+1) hs i o (by simpa using h);rw[show k+1+i=k+(i+1) by omega] at this;exact this
def uF:List Oper->Nat->Bool
 | [],_=>true
 |o::l,i=>(xV o).all (fun j=>Nat.blt j i)&&uF l (i+1)
theorem Fy:∀(l:List Oper) (k:Nat),uF l k=true->∀i o,l[i]?=some o->∀j∈xV o,j<k+i
 | [],_,_,i,o,h=>by simp at h
 |o'::l,k,he,i,o,h=>by
  simp only[uF,Bool.and_eq_true,List.all_eq_true] at he;cases i with
  |zero=>simp at h;subst h;intro j hj;have:=he.1 j hj;simpa [Nat.blt_eq] using this
  |succ i=>intro j hj;have:=Fy l (k+1) he.2 i o (by simpa using h) j hj;omega
theorem Jt{l:List Oper}{done:Array Bool}(he:uF l 0=true)(hs:done.size=l.length)(hr:Region.ready .any l.toArray done= []):∀i,i<l.length->done.getD i false=true:=by
 intro i;induction i using Nat.strongRecOn with
 |ind i ih=>
  intro hi;have lJ:i<done.size:=by omega
  cases hd:done[i] with
  |true=>simp[Array.getD,lJ,hd]
  |false=>
   exfalso;have:i∈Region.ready .any l.toArray done:=by
    refine mem_ready.2 ⟨by simp[Array.getD,lJ,hd],l[i],by simp[hi],fun e h1 h2=>?_⟩;have hm:e.on∈xV l[i]:=by simp only[xV,List.mem_map,List.mem_filter,Array.mem_toList_iff];exact⟨e,⟨h1,h2⟩,rfl⟩
    have:=Fy l 0 he i l[i] (by simp[hi]) e.on hm;exact ih e.on (by omega) (by omega)
   rw[hr] at this;simp at this
theorem dW{id:Nat}{l:List Oper}{Q:Exit->Act->World->Prop}{a:Act}{w:World}(Inv:Array Bool->Act->World->Prop)(hm:P.follows .mixedOrders=true)(he:uF l 0=true)(h0:Inv (Array.replicate l.length false) a w.drew)
  (step:tG P l.toArray Q Inv l 0) (td:∀done a w,(∀i,i<l.length->done.getD i false=true)->Inv done a w->Q .normal a w):(Code.region id l.toArray true).wp P Q a w:=by
 refine IK (fun done a w=>done.size=l.length/\Inv done a w) hm ⟨by simp,by simpa using h0⟩ (fun done a w i hi ⟨hs,h⟩=>?_) (fun done a w hr ⟨hs,h⟩=>td done a w (Jt he hs hr) h);obtain⟨h1,o,h2,h3⟩:=mem_ready.1 hi;refine wpOp_step h2 fun K hK=>?_;have:=tG.at l 0 step i o (by simpa using h2) done a w (by simpa using hs) (by simpa using h1) (Nm h3) h K (fun a' w' q=>hK a' w' ⟨by simpa using hs,by simpa using q⟩);exact this
theorem fi{done:Array Bool}{i:Nat}(h:i<done.size):(done.setIfInBounds i true).getD i false=true:=by simp[Array.getD,h]
theorem aj{done:Array Bool}{i j:Nat}(hj:(done.setIfInBounds i true).getD j false=true)(h:i≠j):done.getD j false=true:=by rw[getD_set_ne false h] at hj;exact hj
theorem kp{done:Array Bool}{i j:Nat}{P:Prop}(f:done.getD j false=true->P)(h:i≠j:=by decide):(done.setIfInBounds i true).getD j false=true->P:=fun q=>f (aj q h)
theorem nd{done:Array Bool}{i:Nat}(h:done.getD i true=false):¬done.getD i false=true:=by rw[getD_both h];decide
theorem amm{A B C D:Prop}(f:A->C)(g:B->D):A/\B->C/\D:=fun h=>⟨f h.1,g h.2⟩
theorem emm{α:Sort _}{A B:α->Prop}(f:∀x,A x->B x):(∃x,A x)->∃x,B x:=fun⟨x,h⟩=>⟨x,f x h⟩
theorem fmm{done:Array Bool}{i k:Nat}{A B:Prop}(h:i≠k)(m:A->B):(done.getD k false=false->A)->((done.setIfInBounds i true).getD k false=false->B):=fun f q=>m (f (by rw[getD_set_ne false h]at q;exact q))
theorem ku{done:Array Bool}{i j:Nat}{P Q:Prop}(f:done.getD j false=true->P)(m:P->Q:=by repeat'(first|with_reducible exact fun h=>h|with_reducible exact fun h=>getD_set_true h|with_reducible refine amm ?_ ?_|with_reducible refine emm fun _=>?_|with_reducible refine fmm (by decide) ?_|exact fun h=>h.gr (by assumption)|exact fun h=>Gr.owns h (by assumption)))(h:i≠j:=by decide):(done.setIfInBounds i true).getD j false=true->Q:=fun q=>m (f (aj q h))
end
def IU(w:World)(a:Option Addr)(len cap:Nat)(zs:List Int):Prop:=
 (a=none/\len=0/\cap=0/\zs= [])∨
 ∃x,a=some x/\len<=cap/\cap<=maxLen/\zs.length=cap/\(∀i,i<zs.length->w.cell? (x.add i)=some (.int .i64 (zs.getD i 0)))/\∀n∈zs,(Lit.int .i64 n).wf=true
theorem JB{w:World}{x:Addr}{v:Value}(h:w.cell? x=some v):x=⟨x.block,x.off,none⟩:=by
 cases x with
 |mk b o s=>
  cases s with
  |none=>rfl
  |some k=>simp only[World.cell?] at h;split at h<;>simp at h
theorem IU.ints{w:World}{a:Option Addr}{len cap:Nat}{zs:List Int}(h:IU w a len cap zs)(b:Nat)(hb:w.heap.size<=b)(n:Nat)(hn:n<=len):zY w b a n:=by
 intro k hk;rcases h with⟨_,h2,_⟩|⟨x,rfl,h1,h2,h3,h4,h5⟩
 ·omega
 have c0:=h4 0 (by omega);have ck:=h4 k (by omega);simp only[Addr.add,if_true] at c0;have hx:=JB c0;refine⟨x.block,x.off,zs.getD k 0,by rw[<-hx],?_,?_,?_⟩
 ·rw[hx] at c0;have:x.block<w.heap.size:=ae c0;omega
 ·simp only[Addr.add] at ck;split at ck
  ·rename_i e;subst e;rw[hx] at ck;simpa using ck
  exact ck
 have Qc:zs.getD k 0∈zs:=by rw[List.getD_eq_getElem?_getD,List.getElem?_eq_getElem (by omega)];simp
 have:=h5 _ Qc;have:=bounds_i64 this;omega
def V3(w:World)(len:Nat)(e:Ending)(w':World):Prop:=
 ∃b n,e= .returned (.pointer (some ⟨b,0,none⟩))/\sI w' b 0 n/\Gr w w'/\w.heap.size<=b/\n<=len
theorem Mt(w:World)(a:Option Addr)(len cap:Nat)(zs:List Int)(h:IU w a len cap zs):
  Calls Tryz.prog 9 #[.slice a len cap] w (V3 w len):=by
 have hi:=h.ints;have H:=aa h;rcases h with⟨rfl,rfl,rfl,rfl⟩|⟨x,rfl,h1,h2,h3,_,_⟩
 ·clear hi;go_enter Tryz.func9,Tryz.ntmps9;go_wp2;go_ret;refine⟨w.heap.size,0,rfl,⟨none,0,by simp[go_sem],by simp[go_sem],by simp[go_sem],by omega,by omega,by omega,fun k hk=>by omega⟩,(gfl w).alloc _,Nat.le_refl _,by omega⟩
 unfold maxLen at h2;have HI:=aa hi;clear hi h3;by_cases hl:len<=500
 ·go_enter Tryz.func9,Tryz.ntmps9;go_wp2;go_ret;refine⟨w.heap.size,len,rfl,⟨some x,cap,by simp[go_sem],by simp[go_sem],by simp[go_sem],by omega,by omega,by omega,?_⟩,(gfl w).alloc _,Nat.le_refl _,by omega⟩;exact(HI.out w.heap.size (Nat.le_refl _) len (Nat.le_refl _)).gr ((gfl w).alloc _)
 go_enter Tryz.func9,Tryz.ntmps9;go_wp2;go_ret;refine⟨w.heap.size,500,rfl,⟨some x,cap,by simp[go_sem],by simp[go_sem],by simp[go_sem],by omega,by omega,by omega,?_⟩,(gfl w).alloc _,Nat.le_refl _,by omega⟩;exact(HI.out w.heap.size (Nat.le_refl _) 500 (by omega)).gr ((gfl w).alloc _)
end
section
open Go.RowKit
open Classical
def Tp(w:World)(b len:Nat):Prop:=∃p,sI w b p len
def Mv(b len:Nat)(w w':World):Prop:=∃p:Int,0<=p/\p<=(len:Int)/\Gr (w.setCell ⟨b,1,none⟩ (.int .i64 p)) w'
theorem bQ(w:World)(a:Addr)(v:Value):(w.setCell a v).heap.size=w.heap.size:=by simp[World.setCell]
theorem Tp.has{w:World}{b len:Nat}(h:Tp w b len):b<w.heap.size:=h.elim fun _ h=>h.has
theorem Mv.tp{w w':World}{b len:Nat}(h:Mv b len w w')(ht:Tp w b len):Tp w' b len:=by obtain⟨p,h0,h1,hg⟩:=h;obtain⟨q,ht⟩:=ht;exact⟨p,(ht.set h0 h1).gr hg⟩
theorem Tp.gr{w w':World}{b len:Nat}(h:Tp w b len)(hg:Gr w w'):Tp w' b len:=h.elim fun p h=>⟨p,h.gr hg⟩
theorem Mv.of_gr{w w':World}{b len:Nat}(ht:Tp w b len)(hg:Gr w w'):Mv b len w w':=by obtain⟨p,ht⟩:=ht;obtain⟨ao,cap,c0,c1,c2,c3,c4,c5,c6⟩:=ht;exact⟨p,c3,c4,by rw[zl c1];exact hg⟩
theorem Mv.refl{w:World}{b len:Nat}(ht:Tp w b len):Mv b len w w:= .of_gr ht (gfl w)
theorem yN{w w':World}{b:Nat}(hg:Gr w w')(hb:b<w.heap.size)(v:Value):Gr (w.setCell ⟨b,1,none⟩ v) (w'.setCell ⟨b,1,none⟩ v):=by have h:=hg.below;refine .of_below ⟨h.os,h.tape,h.output,by rw[bQ,bQ];exact h.size,fun k hk=>?_⟩;rw[bQ] at hk;have:=h.block k hk;simp only[World.setCell,Array.getElem?_modify,this]
theorem Mv.trans{w w1 w2:World}{b len:Nat}(h:Mv b len w w1)(hb:b<w.heap.size)(k:Mv b len w1 w2):Mv b len w w2:=by obtain⟨p,h0,h1,hg⟩:=h;obtain⟨q,k0,k1,kg⟩:=k;refine⟨q,k0,k1,?_⟩;have:=yN hg (by rw[bQ];exact hb) (.int .i64 q);rw[setCell_setCell] at this;exact this.trans kg
theorem Mv.gr{w w1 w2:World}{b len:Nat}(h:Mv b len w w1)(k:Gr w1 w2):Mv b len w w2:=by obtain⟨p,h0,h1,hg⟩:=h;exact⟨p,h0,h1,hg.trans k⟩
theorem Mv.alloc{w w1:World}{b len:Nat}(o:Obj)(h:Mv b len w w1):Mv b len w (w1.alloc o):=h.gr ((gfl _).alloc o)
theorem Mv.setc{w w1:World}{b len B o:Nat}{v:Value}(h:Mv b len w w1)(hB:w.heap.size<=B):Mv b len w (w1.setCell ⟨B,o,none⟩ v):=by obtain⟨p,h0,h1,hg⟩:=h;exact⟨p,h0,h1,hg.setCell (a:=⟨B,o,none⟩) (by rw[bQ];exact hB) v⟩
theorem Mv.size{w w1:World}{b len:Nat}(h:Mv b len w w1):w.heap.size<=w1.heap.size:=by obtain⟨p,h0,h1,hg⟩:=h;have:=hg.size;rwa [bQ] at this
theorem Mv.block{w w1:World}{b len k:Nat}(h:Mv b len w w1)(hk:k<w.heap.size)(hb:k≠b):w1.heap[k]?=w.heap[k]?:=by obtain⟨p,h0,h1,hg⟩:=h;rw[hg.below.block k (by rw[bQ];exact hk)];simp[World.setCell,Array.getElem?_modify,Ne.symm hb]
theorem Mv.row{w w1:World}{b len B T:Nat}{vs:List Value}(h:Mv b len w w1)(r:Row w B T vs)(hb:B≠b):Row w1 B T vs:=(h.block r.has hb).trans r
def ve(b len:Nat)(w:World)(S:Int->Prop)(e:Ending)(w':World):Prop:=∃x,e= .returned (.int .i64 x)/\S x/\Mv b len w w'
theorem EK.m{b len:Nat}{w:World}{S:Int->Prop}{e:Ending}{w':World}(h:EK w b len S e w'):ve b len w S e w':=by obtain⟨x,p,e,hs,h0,h1,hg⟩:=h;exact⟨x,e,hs,p,h0,h1,hg⟩
theorem k7(w:World)(b len:Nat)(n:Int)(h:Tp w b len)(hn:1<=n)(gc:n<=9223372036854775807):
  Calls Tryz.prog 43 #[.pointer (some ⟨b,0,none⟩),.int .i64 n] w (ve b len w (gv 0 (n-1))):=
 h.elim fun p h=>(Va w b len p n h hn gc).mono fun _ _ q=>q.m
theorem mZ(w:World)(b len:Nat)(lo hi:Int)(h:Tp w b len)(hl: -1000<=lo)(hh:lo<=hi)(Cy:hi<=1000000):
  Calls Tryz.prog 109 #[.pointer (some ⟨b,0,none⟩),.int .i64 lo,.int .i64 hi] w (ve b len w (gv lo hi)):=by
 have H:=aa h;clear h;go_enter Tryz.func109,Tryz.ntmps109;go_wp2_with fail;refine(k7 _ b len _ H.out (by omega) (by omega)).mono ?_;rintro e w' ⟨x,rfl,hx,hm⟩;have lR:=hx.1;have jm:=hx.2;have M:=aa hm;clear hm hx;go_wp2_with fail;go_ret;exact⟨lo+x,rfl,⟨by omega,by omega⟩,M.out⟩
theorem Mv.out{w W w':World}{b len:Nat}(hg:Gr w W)(h:Mv b len W w')(hb:w.heap.size<=b):Gr w w':=by obtain⟨p,h0,h1,g⟩:=h;exact(hg.setc hb).trans g
end
section
open Go.RowKit
def bg(vs:List Bool):List Value:=vs.map Value.bool
def an(vs:List Int):List Value:=vs.map (Value.int .i64)
theorem AD(vs:List Bool):(bg vs).length=vs.length:=by simp[bg]
theorem dp(vs:List Int):(an vs).length=vs.length:=by simp[an]
theorem Im(vs:List Bool)(k:Nat)(b:Bool):(bg vs).set k (.bool b)=bg (vs.set k b):=by simp[bg,List.map_set]
theorem KF(vs:List Int)(k:Nat)(b:Int):(an vs).set k (.int .i64 b)=an (vs.set k b):=by simp[an,List.map_set]
theorem Row.bat{w:World}{B T:Nat}{vs:List Bool}(h:Row w B T (bg vs))(k:Nat)(hk:k<vs.length):w.cell? ⟨B,k,none⟩=some (.bool vs[k]):=by rw[h.cell k (by simpa [bg] using hk)];simp[bg]
theorem Row.iat{w:World}{B T:Nat}{vs:List Int}(h:Row w B T (an vs))(k:Nat)(hk:k<vs.length):w.cell? ⟨B,k,none⟩=some (.int .i64 vs[k]):=by rw[h.cell k (by simpa [an] using hk)];simp[an]
theorem Row.bset{w:World}{B T:Nat}{vs:List Bool}(h:Row w B T (bg vs))(k:Nat)(b:Bool):Row (w.setCell ⟨B,k,none⟩ (.bool b)) B T (bg (vs.set k b)):=by rw[<-Im];exact h.set k _
theorem Row.iset{w:World}{B T:Nat}{vs:List Int}(h:Row w B T (an vs))(k:Nat)(b:Int):Row (w.setCell ⟨B,k,none⟩ (.int .i64 b)) B T (an (vs.set k b)):=by rw[<-KF];exact h.set k _
def bd(w:World)(B T:Nat)(vs:List Value):Prop:=∃rest,Row w B T (vs++rest)
theorem Row.s{w:World}{B T:Nat}{vs:List Value}(h:Row w B T vs):bd w B T vs:=⟨[],by simpa using h⟩
theorem bd.cell{w:World}{B T:Nat}{vs:List Value}(h:bd w B T vs)(k:Nat)(hk:k<vs.length):w.cell? ⟨B,k,none⟩=some vs[k]:=by obtain⟨rest,h⟩:=h;rw[h.cell k (by simp;omega),List.getElem_append_left hk]
theorem bd.free{w:World}{B T:Nat}{vs:List Value}(h:bd w B T vs)(k:Nat):w.frozen? ⟨B,k,none⟩=false:=h.elim fun _ h=>h.free k
theorem bd.has{w:World}{B T:Nat}{vs:List Value}(h:bd w B T vs):Has w B:=h.elim fun _ h=>h.has
theorem bd.set{w:World}{B T:Nat}{vs:List Value}(h:bd w B T vs)(k:Nat)(hk:k<vs.length)(v:Value):bd (w.setCell ⟨B,k,none⟩ v) B T (vs.set k v):=by obtain⟨rest,h⟩:=h;refine⟨rest,?_⟩;have:=h.set k v;rwa [List.set_append_left _ _ hk] at this
theorem bd.oth{w:World}{B T b o:Nat}{vs:List Value}{v:Value}(h:bd w B T vs)(ha:b≠B):bd (w.setCell ⟨b,o,none⟩ v) B T vs:=h.elim fun r h=>⟨r,h.oth ha⟩
theorem bd.gr{w w':World}{B T:Nat}{vs:List Value}(h:bd w B T vs)(hg:Gr w w'):bd w' B T vs:=h.elim fun r h=>⟨r,h.gr hg⟩
theorem bd.alloc{w:World}{B T:Nat}{vs:List Value}(o:Obj)(h:bd w B T vs):bd (w.alloc o) B T vs:=h.gr ((gfl w).alloc o)
theorem bd.drew{w:World}{B T:Nat}{vs:List Value}(h:bd w B T vs):bd w.drew B T vs:=h.gr (gfl w).drew
theorem bd.bat{w:World}{B T:Nat}{vs:List Bool}(h:bd w B T (bg vs))(k:Nat)(hk:k<vs.length):w.cell? ⟨B,k,none⟩=some (.bool vs[k]):=by rw[h.cell k (by simpa [bg] using hk)];simp[bg]
theorem bd.iat{w:World}{B T:Nat}{vs:List Int}(h:bd w B T (an vs))(k:Nat)(hk:k<vs.length):w.cell? ⟨B,k,none⟩=some (.int .i64 vs[k]):=by rw[h.cell k (by simpa [an] using hk)];simp[an]
theorem bd.bset{w:World}{B T:Nat}{vs:List Bool}(h:bd w B T (bg vs))(k:Nat)(hk:k<vs.length)(b:Bool):bd (w.setCell ⟨B,k,none⟩ (.bool b)) B T (bg (vs.set k b)):=by rw[<-Im];exact h.set k (by simpa [bg] using hk) _
theorem bd.iset{w:World}{B T:Nat}{vs:List Int}(h:bd w B T (an vs))(k:Nat)(hk:k<vs.length)(b:Int):bd (w.setCell ⟨B,k,none⟩ (.int .i64 b)) B T (an (vs.set k b)):=by rw[<-KF];exact h.set k (by simpa [an] using hk) _
theorem bd.slB{w:World}{B T:Nat}{vs:List Bool}(h:bd w B T (bg vs)):ag 1 RB w (some ⟨B,0,none⟩) vs:=fun k hk=>⟨B,0,rfl,by rw[Nat.mul_one,Nat.zero_add];exact h.bat k hk⟩
theorem bd.slI{w:World}{B T:Nat}{vs:List Int}(h:bd w B T (an vs))(hw:∀k (hk:k<vs.length),aK vs[k]):ag 1 RI w (some ⟨B,0,none⟩) vs:=fun k hk=>⟨B,0,rfl,by rw[Nat.mul_one,Nat.zero_add];exact⟨h.iat k hk,hw k hk⟩⟩
theorem bd.apart{w:World}{B C T U:Nat}{vs us:List Value}(h:bd w B T vs)(k:bd w C U us)(hT:T≠U):B≠C:=by rintro rfl;obtain⟨r,h⟩:=h;obtain⟨s,k⟩:=k;unfold Row at h k;rw[h] at k;injection k with k;injection k with _ k;exact hT k
theorem Sy(vs:List Bool):∀u∈bg vs,u.oneCell'=true:=by intro u hu;obtain⟨x,_,rfl⟩:=List.mem_map.1 hu;rfl
theorem gL(vs:List Int):∀u∈an vs,u.oneCell'=true:=by intro u hu;obtain⟨x,_,rfl⟩:=List.mem_map.1 hu;rfl
def bt(base:Nat)(w:World)(T:Nat)(vs:List Value)(a:Option Addr):Prop:=vs= []∨∃B,a=some ⟨B,0,none⟩/\base<=B/\bd w B T vs
theorem bt.gr{base:Nat}{w w':World}{T:Nat}{vs:List Value}{a:Option Addr}(h:bt base w T vs a)(hg:Gr w w'):bt base w' T vs a:=by
 rcases h with h|⟨B,e,hb,h⟩
 ·exact .inl h
 exact .inr ⟨B,e,hb,h.gr hg⟩
theorem bt.low{base base':Nat}{w:World}{T:Nat}{vs:List Value}{a:Option Addr}(h:bt base w T vs a)(hb:base'<=base):bt base' w T vs a:=by
 rcases h with h|⟨B,e,hB,h⟩
 ·exact .inl h
 exact .inr ⟨B,e,by omega,h⟩
theorem bt.slB{base:Nat}{w:World}{T:Nat}{vs:List Bool}{a:Option Addr}(h:bt base w T (bg vs) a):ag 1 RB w a vs:=by
 rcases h with h|⟨B,rfl,hb,h⟩
 ·have:vs= []:=by simpa [bg] using h
  subst this;exact ag.nil _ _ _ _
 exact h.slB
theorem bt.slI{base:Nat}{w:World}{T:Nat}{vs:List Int}{a:Option Addr}(h:bt base w T (an vs) a)(hw:∀k (hk:k<vs.length),aK vs[k]):ag 1 RI w a vs:=by
 rcases h with h|⟨B,rfl,hb,h⟩
 ·have:vs= []:=by simpa [an] using h
  subst this;exact ag.nil _ _ _ _
 exact h.slI hw
theorem Gr.grown{w W w':World}{row:Option Nat}(h:Gr w W)(hg:W.grownBy w' row)(fe:∀k,row=some k->w.heap.size<=k):Gr w w':=by have hb:=h.below;refine .of_below ⟨hg.os.trans hb.os,hg.tape.trans hb.tape,hg.output.trans hb.output,Nat.le_trans hb.size hg.size,fun k hk=>?_⟩;rw[hg.block k (Nat.lt_of_lt_of_le hk hb.size) (fun e=>by have:=fe k e.symm;omega)];exact hb.block k hk
theorem fX{w:World}{base e n:Nat}{v:Value}{xs:List Value}(h:w.ownsRow base e 1 v n xs):∃a c,v= .slice a n c/\n<=c/\bt base w e xs a:=by
 obtain⟨h0,⟨rfl,rfl⟩|⟨g,cap,cur,rfl,hb,hg,hn,_,hs,ht⟩⟩:=h
 ·exact⟨none,0,rfl,Nat.le_refl _,.inl (List.eq_nil_of_length_eq_zero (by simpa using h0))⟩
 refine⟨_,cap,rfl,hn,.inr ⟨g,rfl,hb,cur.toList.drop (n*1),?_⟩⟩;rw[<-ht,List.take_append_drop];exact hg
theorem AB{w:World}{b o:Nat}{s:Option Nat}{vs:List Bool}(h:ag 1 RB w (some ⟨b,o,s⟩) vs):∀j u,(bg vs)[j]?=some u->w.cell? ((⟨b,o,s⟩:Addr).add j)=some u:=by
 intro j u hu;obtain⟨hj,hu⟩:=List.getElem?_eq_some_iff.1 hu;have qH:j<vs.length:=by simpa [bg] using hj
 obtain⟨b',o',e,q⟩:=h.one j qH;cases e
 have:(⟨b,o,none⟩:Addr).add j=⟨b,o+j,none⟩:=by unfold Addr.add;split<;>simp_all
 rw[this,q,<-hu];simp[bg]
theorem rA{w:World}{b o:Nat}{s:Option Nat}{vs:List Int}(h:ag 1 RI w (some ⟨b,o,s⟩) vs):∀j u,(an vs)[j]?=some u->w.cell? ((⟨b,o,s⟩:Addr).add j)=some u:=by
 intro j u hu;obtain⟨hj,hu⟩:=List.getElem?_eq_some_iff.1 hu;have qH:j<vs.length:=by simpa [an] using hj
 obtain⟨b',o',e,q⟩:=h.one j qH;cases e
 have:(⟨b,o,none⟩:Addr).add j=⟨b,o+j,none⟩:=by unfold Addr.add;split<;>simp_all
 rw[this,q.1,<-hu];simp[an]
theorem Gm{α:Type}{n:Nat}{R:World->Nat->Nat->α->Prop}{w:World}{xs:List α}(h:ag n R w none xs):xs= []:=by
 rcases Nat.eq_zero_or_pos xs.length with e|e
 ·exact List.eq_nil_of_length_eq_zero e
 obtain⟨b,o,e,_⟩:=h 0 e;cases e
def Da(w:World)(T:Nat)(vs:List Value)(e:Ending)(w':World):Prop:=
 ∃a c,e= .returned (.slice a vs.length c)/\vs.length<=c/\bt w.heap.size w' T vs a/\Gr w w'
theorem Dn{α:Type}(vs:List α)(k j:Nat)(x z:α)(hk:k<vs.length):(vs.set k x).getD j z=if j=k then x else vs.getD j z:=by
 by_cases e:j=k
 ·subst e;simp[List.getD_eq_getElem?_getD,hk]
 rw[if_neg e,List.getD_eq_getElem?_getD,List.getElem?_set_ne (Ne.symm e),<-List.getD_eq_getElem?_getD]
theorem kG{α:Type}(vs:List α)(k:Nat)(hk:k<vs.length)(x:α)(h:vs[k]=x):vs.set k x=vs:=by rw[<-h];simp
theorem bt.oth{base b o:Nat}{w:World}{T:Nat}{vs:List Value}{a:Option Addr}{v:Value}(h:bt base w T vs a)(hb:b<base):bt base (w.setCell ⟨b,o,none⟩ v) T vs a:=by
 rcases h with h|⟨B,e,hB,h⟩
 ·exact .inl h
 exact .inr ⟨B,e,hB,h.oth (by omega)⟩
theorem bt.at{base:Nat}{w:World}{T:Nat}{vs:List Value}{a:Option Addr}(h:bt base w T vs a)(hv:0<vs.length):∃B,a=some ⟨B,0,none⟩/\base<=B/\bd w B T vs:=by
 rcases h with h|h
 ·rw[h] at hv;cases hv
 exact h
theorem bt.row{base B:Nat}{w:World}{T:Nat}{vs:List Value}(hB:base<=B)(h:bd w B T vs):bt base w T vs (some ⟨B,0,none⟩):= .inr ⟨B,rfl,hB,h⟩
theorem cA(w:World)(B o:Nat)(v:Value):w.grownBy (w.setCell ⟨B,o,none⟩ v) (some B):=
 ⟨rfl,rfl,rfl,by simp[World.setCell],fun k _ hk=>by simp only[World.setCell];rw[Array.getElem?_modify,if_neg (fun e=>hk (by rw[e]))]⟩
theorem bd.grown{w w':World}{row:Option Nat}{B T:Nat}{vs:List Value}(h:bd w B T vs)(hg:w.grownBy w' row)(bS:some B≠row):bd w' B T vs:=
 h.elim fun r h=>⟨r,(hg.block B h.has bS).trans h⟩
theorem Row.grown{w w':World}{row:Option Nat}{B T:Nat}{vs:List Value}(h:Row w B T vs)(hg:w.grownBy w' row)(bS:some B≠row):Row w' B T vs:=(hg.block B h.has bS).trans h
theorem aJ{w:World}{base e size n:Nat}{v:Value}{xs:List Value}(ho:w.ownsRow base e size v n xs){B T:Nat}{vs:List Value}(h:bd w B T vs)(hT:T≠e):some B≠v.ownBlock:=by
 intro q;obtain⟨_,⟨rfl,_⟩|⟨g,cap,cur,rfl,_,hg,_⟩⟩:=ho
 ·cases q
 injection q with q;obtain⟨r,h⟩:=h;unfold Row at h;rw[q] at h;simp only at h;rw[h] at hg;injection hg with hg;injection hg with _ hg;exact hT hg
theorem l7{w:World}{base e size n:Nat}{v:Value}{xs:List Value}(ho:w.ownsRow base e size v n xs){B T o:Nat}{vs:List Value}{x:Value}(h:bd w B T vs)(hT:T≠e):(w.setCell ⟨B,o,none⟩ x).ownsRow base e size v n xs:=
 ho.kept (cA w B o x) (.inr (Ne.symm (aJ ho h hT)))
theorem nJ{α:Type}(f:α->List Value)(n:Nat)(hf:∀x,(f x).length=n)(ts:List α)(k j:Nat)(hk:k<ts.length)(hj:j<n):(ts.flatMap f)[k*n+j]?=(f ts[k])[j]?:=by
 induction ts generalizing k with
 |nil=>simp at hk
 |cons x ts ih=>
  rw[List.flatMap_cons];cases k with
  |zero=>rw[List.getElem?_append_left (by rw[hf];omega)];simp
  |succ k=>rw[List.getElem?_append_right (by rw[hf,Nat.add_mul];omega),hf,show(k+1)*n+j-n=k*n+j by rw[Nat.add_mul];omega,ih k (by simpa using hk)];simp
theorem Jf{α:Type}(f:α->List Value)(n:Nat)(hf:∀x,(f x).length=n)(ts:List α):(ts.flatMap f).length=ts.length*n:=by
 induction ts with
 |nil=>simp
 |cons x ts ih=>rw[List.flatMap_cons,List.length_append,hf,ih,List.length_cons,Nat.add_mul];omega
theorem fM{w:World}{base e size n:Nat}{v:Value}{xs:List Value}(h:w.ownsRow base e size v n xs)(hn:0<n):∃g cap,v= .slice (some ⟨g,0,none⟩) n cap/\n<=cap/\base<=g/\∀j,j<n*size->w.cell? ⟨g,j,none⟩=xs[j]?:=by
 obtain⟨h0,⟨rfl,h1⟩|⟨g,cap,cur,rfl,hb,hg,hn',_,hs,ht⟩⟩:=h
 ·omega
 refine⟨g,cap,rfl,hn',hb,fun j hj=>?_⟩;rw[<-ht,List.getElem?_take,if_pos hj];simp[World.cell?,hg]
theorem bt.grown{base:Nat}{w w1:World}{row:Option Nat}{T:Nat}{vs:List Value}{a:Option Addr}(h:bt base w T vs a)(hg:w.grownBy w1 row)(bS:∀B,bd w B T vs->some B≠row):bt base w1 T vs a:=by
 rcases h with h|⟨B,e,hB,h⟩
 ·exact .inl h
 exact .inr ⟨B,e,hB,h.grown hg (bS B h)⟩
theorem be{w:World}{base e size n:Nat}{v:Value}{xs:List Value}(h:w.ownsRow base e size v n xs):∃a c,v= .slice a n c:=by
 rcases h.2 with⟨rfl,rfl⟩|⟨g,cap,cur,rfl,_⟩
 ·exact⟨none,0,rfl⟩
 exact⟨_,cap,rfl⟩
theorem Gr.owns{w w1:World}{base e size n:Nat}{v:Value}{xs:List Value}(r:w.ownsRow base e size v n xs)(hg:Gr w w1):w1.ownsRow base e size v n xs:=by
 refine⟨r.1,?_⟩;rcases r.2 with r|⟨g,cap,cur,e,h1,h2,h3⟩
 ·exact .inl r
 exact .inr ⟨g,cap,cur,e,h1,(hg.below.block g (Array.getElem?_eq_some_iff.1 h2).1).trans h2,h3⟩
theorem vA{P:Program}(w:World)(t ty e:TypeId)(i:TypeInfo)(z:Value)(bytes:Nat)(ht:P.underlying t=some (.slice e))(hi:P.info? e=some i)(hz:i.zero=some z)(hs:i.size=1)(hb:i.bytes=bytes)
  (b ad:Addr) (m c:Nat) (dZ:List Value) (hl:dZ.length=m) (xg:∀j u,dZ[j]?=some u->w.cell? (ad.add j)=some u) (hm:0<m) (v8:m<=1000000) (lB:bytes<=8):
  ∃cap Z,m<=cap/\(Builtin.append_ #[t,t] ty #[.slice (some b) 0 0,.slice (some ad) m c]).run P w= .ok (.slice (some ⟨w.heap.size,0,none⟩) m cap) (w.drew.alloc (.cells (dZ.toArray++Z) e)):=by
 subst hb;have:=run_append_grow (P:=P) w t ty e i z ht hi hz b 0 0 [] (by simp) (fun j v h=>by simp at h) ad m c dZ (by rw[hs];omega) xg (by omega) (by omega) (growslice_fits (by omega) (by rw[Nat.zero_add];exact Nat.le_trans (Nat.mul_le_mul v8 lB) (by decide)));simp only[Nat.zero_add,Array.empty_append] at this;exact⟨_,_,by have:=grownCap_ge w m 0 e;exact this,this⟩
theorem mm{P:Program}(w:World){ops:Array Oper}{o:Oper}{a:Act}{K:Act->World->Prop}{Q:Exit->Act->World->Prop}{E:Prop}(jv:o.guard=none)(s x:Operand)(t:TypeId)
  (ho:o.op= .call {callee:= .builtin .append,args:= #[s,x],argTypes:= #[t,t]}) (e:TypeId) (i:TypeInfo) (z:Value) (bytes:Nat) (ht:P.underlying t=some (.slice e)) (hi:P.info? e=some i) (hz:i.zero=some z) (hs:i.size=1) (hb:i.bytes=bytes)
  (b ad:Addr) (m c:Nat) (dZ:List Value) (hv:a.eval s= .slice (some b) 0 0) (hx:a.eval x= .slice (some ad) m c) (hl:dZ.length=m) (xg:∀j u,dZ[j]?=some u->w.cell? (ad.add j)=some u) (hm:0<m) (v8:m<=1000000) (lB:bytes<=8) (H:Nat) (hH:w.heap.size=H)
  (h:∀cap Z,m<=cap->K (a.put o.dst (.slice (some ⟨H,0,none⟩) m cap)) (w.drew.alloc (.cells (dZ.toArray++Z) e))):
  if Region.wanted o (yielded ops a.tmps)=true then Oper.wp P o a w K Q else E:=by
 subst hH;have hw:Region.wanted o (yielded ops a.tmps)=true:=by simp[Region.wanted,jv]
 rw[if_pos hw];obtain⟨cap,Z,hc,hr⟩:=vA (P:=P) w t o.type e i z bytes ht hi hz hs hb b ad m c dZ hl xg hm v8 lB;unfold Oper.wp execOp;simp only[ho,resolve,invoke,builtin,Sem.run_bind,Sem.run_pure,Result.andThen_ok,List.map_toArray,List.map_cons,List.map_nil,hv,hx,hr];exact h cap Z hc
theorem AW(w:World)(vs:List Value)(Z:Array Value)(T:Nat):bd (w.alloc (.cells (vs.toArray++Z) T)) w.heap.size T vs:=⟨Z.toList,by have:=Row.new w (vs.toArray++Z) T;simpa using this⟩
theorem yP(w:World)(vs:List Value)(Z:Array Value)(T B:Nat)(hB:B=w.heap.size):bd (w.alloc (.cells (vs.toArray++Z) T)) B T vs:=by subst hB;exact AW w vs Z T
theorem ag.keepB{w:World}{ao:Option Addr}{xs:List Bool}{a:Addr}{v v':Value}(h:ag 1 RB w ao xs)(c:w.cell? a=some v)(hv:∀x,v≠ .bool x):ag 1 RB (w.setCell a v') ao xs:=fun k hk=>by
 obtain⟨b,o,rfl,q⟩:=h k hk;refine⟨b,o,rfl,?_⟩;unfold RB at q ⊢;rw[World.cell?_setCell_other,q];intro e;rw[e,q] at c;cases c
 exact hv _ rfl
theorem ag.keepI{w:World}{ao:Option Addr}{xs:List Int}{a:Addr}{v v':Value}(h:ag 1 RI w ao xs)(c:w.cell? a=some v)(hv:∀k x,v≠ .int k x):ag 1 RI (w.setCell a v') ao xs:=fun k hk=>by
 obtain⟨b,o,rfl,q⟩:=h k hk;refine⟨b,o,rfl,?_,q.2⟩;rw[World.cell?_setCell_other,q.1];intro e;rw[e,q.1] at c;cases c
 exact hv _ _ rfl
section
open Classical
theorem Mv.rowS{w w1:World}{b len B T:Nat}{vs:List Value}(h:Mv b len w w1)(r:bd w B T vs)(hb:B≠b):bd w1 B T vs:=r.elim fun x r=>⟨x,h.row r hb⟩
theorem Mv.own1{w w1:World}{b len base T:Nat}{vs:List Value}{a:Option Addr}(h:Mv b len w w1)(r:bt base w T vs a)(hb:b<base):bt base w1 T vs a:=by
 rcases r with r|⟨B,e,hB,r⟩
 ·exact .inl r
 exact .inr ⟨B,e,hB,h.rowS r (by omega)⟩
theorem Mv.owns{w w1:World}{b len base e size n:Nat}{v:Value}{xs:List Value}(h:Mv b len w w1)(r:w.ownsRow base e size v n xs)(hb:b<base):w1.ownsRow base e size v n xs:=by
 refine⟨r.1,?_⟩;rcases r.2 with r|⟨g,cap,cur,e,h1,h2,h3⟩
 ·exact .inl r
 exact .inr ⟨g,cap,cur,e,h1,(h.block (Array.getElem?_eq_some_iff.1 h2).1 (by omega)).trans h2,h3⟩
def gP(b:Nat)(w:World)(Q:World->Prop):Prop:=∀p:Int,Q (w.setCell ⟨b,1,none⟩ (.int .i64 p))
def tx(Q:World->Prop):Prop:=∀w w',Gr w w'->Q w->Q w'
theorem gP.mv{w w1:World}{b len:Nat}{Q:World->Prop}(h:gP b w Q)(hb:b<w.heap.size)(m:Mv b len w w1)(hQ:tx Q):gP b w1 Q:=by intro q;obtain⟨p,h0,h1,hg⟩:=m;have:=yN hg (by rw[bQ];exact hb) (.int .i64 q);rw[setCell_setCell] at this;exact hQ _ _ this (h q)
theorem gP.now{w:World}{b len:Nat}{Q:World->Prop}(h:gP b w Q)(ht:Tp w b len):Q w:=by obtain⟨p,ht⟩:=ht;obtain⟨ao,cap,c0,c1,_⟩:=ht;have:=h p;rwa [zl c1] at this
theorem gP.gr{w w1:World}{b:Nat}{Q:World->Prop}(h:gP b w Q)(hb:b<w.heap.size)(hg:Gr w w1)(hQ:tx Q):gP b w1 Q:=fun q=>hQ _ _ (yN hg hb _) (h q)
theorem Il(w:World)(b len:Nat)(h:Tp w b len)(eb n:Nat)(S:Int->Prop)(hn:1<=n)(gc:n<=1000)(bS:eb≠b)(Am:∀k,k<n->∃x,w.cell? ⟨eb,k,none⟩=some (.int .i64 x)/\S x):
  Calls Tryz.prog 35 #[.pointer (some ⟨b,0,none⟩),.slice (some ⟨eb,0,none⟩) n n] w (ve b len w S):=
 h.elim fun p h=>(UV w b len p h eb n S hn gc bS Am).mono fun _ _ q=>q.m
theorem Mv.grown{w W w1:World}{b len:Nat}{row:Option Nat}(h:Mv b len w W)(hg:W.grownBy w1 row)(fe:∀k,row=some k->w.heap.size<=k):Mv b len w w1:=by obtain⟨p,h0,h1,g⟩:=h;exact⟨p,h0,h1,g.grown hg (fun k e=>by rw[bQ];exact fe k e)⟩
theorem dG(w:World)(b len:Nat)(h:Tp w b len)(eb:Nat)(Fu:eb=w.heap.size)(arr:Array Value)(n:Nat)(xs:List Int)(S:Int->Prop)(ha:arr.toList=an xs)(hn:xs.length=n)(gc:1<=n)(hn2:n<=1000)(hS:∀x∈xs,S x):
  Calls Tryz.prog 35 #[.pointer (some ⟨b,0,none⟩),.slice (some ⟨eb,0,none⟩) n n] (w.alloc (.cells arr 3)) (ve b len w S):=by
 subst Fu;refine(Il (w.alloc (.cells arr 3)) b len (h.gr ((gfl _).alloc _)) w.heap.size n S gc hn2 (by have:=h.has;omega) (fun k hk=>?_)).mono ?_
 ·have q:=Row.new w arr 3;rw[ha] at q;exact⟨_,q.iat k (by omega),hS _ (List.getElem_mem _)⟩
 rintro e w' ⟨x,rfl,hs,hm⟩;exact⟨x,rfl,hs,(Mv.of_gr h ((gfl _).alloc _)).trans h.has hm⟩
end
def yT(w:World)(A:Option Addr)(m size:Nat)(dZ:List Value):Prop:=dZ.length=m*size/\(m≠0->∃ad,A=some ad/\∀j u,dZ[j]?=some u->w.cell? (ad.add j)=some u)
section
variable {P:Program} (w:World)
theorem JG(row:Option Nat):w.grownBy w row:=World.grownBy.refl w row
theorem Fi(base:Nat)(t ty e:TypeId)(i:TypeInfo)(z:Value)(size bytes:Nat)(ht:P.underlying t=some (.slice e))(hi:P.info? e=some i)(hz:i.zero=some z)(hs:i.size=size)(hb:i.bytes=bytes)(vQ:z.cells.size=size)(h0:0<size)
  (v:Value) (n:Nat) (xs:List Value) (aV:w.ownsRow base e size v n xs) (A:Option Addr) (m c:Nat) (dZ:List Value) (hg:yT w A m size dZ) (h1:∀u∈dZ,u.oneCell'=true) (v8:n+m<=maxLen) (lB:(n+m)*bytes<=140737488355328) (kR:base<=w.heap.size):
  ∃v' w',(Builtin.append_ #[t,t] ty #[v,.slice A m c]).run P w= .ok v' w'/\w'.ownsRow base e size v' (n+m) (xs++dZ)/\w.grownBy w' v.ownBlock/\(v'.ownBlock=v.ownBlock∨v'.ownBlock=some w.heap.size):=by
 cases A with
 |some ad=>
  have hc:∀j u,dZ[j]?=some u->w.cell? (ad.add j)=some u:=by
   by_cases hm:m=0
   ·subst hm;have:dZ= []:=List.eq_nil_of_length_eq_zero (by have:=hg.1;omega);subst this;intro j u hu;simp at hu
   obtain⟨_,e,q⟩:=hg.2 hm;cases e
   exact q
  obtain⟨v',w',q1,q2,q3,_,q5⟩:=run_append_own_at (P:=P) w base t ty e i z size bytes ht hi hz hs hb vQ h0 v n xs aV ad m c dZ hg.1 hc h1 v8 lB kR;exact⟨v',w',q1,q2,q3,q5⟩
 |none=>
  have hm:m=0:=Classical.byContradiction fun q=>by obtain⟨_,e,_⟩:=hg.2 q;cases e
  subst hm;have:dZ= []:=List.eq_nil_of_length_eq_zero (by have:=hg.1;omega);subst this;refine⟨v,w,?_,by simpa using aV,JG w _,.inl rfl⟩;obtain⟨_,⟨rfl,rfl⟩|⟨g,cap,cur,rfl,_,_,hnc,_⟩⟩:=aV
  ·simp[Builtin.append_,run_underlying ht,sizeOf,typeInfo,hi,Builtin.lenOf,Builtin.firstCells]
  simp[Builtin.append_,run_underlying ht,sizeOf,typeInfo,hi,Builtin.lenOf,Builtin.firstCells,hnc,storeCells]
theorem sS{o:Oper}{a:Act}{K:Act->World->Prop}{Q:Exit->Act->World->Prop}(s x:Operand)(t:TypeId)
  (ho:o.op= .call {callee:= .builtin .append,args:= #[s,x],argTypes:= #[t,t]}) (base:Nat) (e:TypeId) (i:TypeInfo) (z:Value) (size bytes:Nat) (ht:P.underlying t=some (.slice e)) (hi:P.info? e=some i) (hz:i.zero=some z) (hs:i.size=size) (hb:i.bytes=bytes) (vQ:z.cells.size=size) (h0:0<size)
  (v:Value) (n:Nat) (xs:List Value) (hv:a.eval s=v) (aV:w.ownsRow base e size v n xs) (A:Option Addr) (m c:Nat) (dZ:List Value) (hx:a.eval x= .slice A m c) (hg:yT w A m size dZ) (h1:∀u∈dZ,u.oneCell'=true) (v8:n+m<=maxLen) (lB:(n+m)*bytes<=140737488355328) (kR:base<=w.heap.size)
  (h:∀v' w',w'.ownsRow base e size v' (n+m) (xs++dZ)->w.grownBy w' v.ownBlock->(v'.ownBlock=v.ownBlock∨v'.ownBlock=some w.heap.size)->K (a.put o.dst v') w'):o.wp P a w K Q:=by
 obtain⟨v',w',q1,q2,q3,q4⟩:=Fi (P:=P) w base t o.type e i z size bytes ht hi hz hs hb vQ h0 v n xs aV A m c dZ hg h1 v8 lB kR;unfold Oper.wp execOp;simp only[ho,resolve,invoke,builtin,Sem.run_bind,Sem.run_pure,Result.andThen_ok,List.map_toArray,List.map_cons,List.map_nil,hv,hx,q1];exact h v' w' q2 q3 q4
theorem bM{ops:Array Oper}{rest:List Oper}{o:Oper}{a:Act}{Q:Exit->Act->World->Prop}(jv:o.guard=none)(s x:Operand)(t:TypeId)
  (ho:o.op= .call {callee:= .builtin .append,args:= #[s,x],argTypes:= #[t,t]}) (base:Nat) (e:TypeId) (i:TypeInfo) (z:Value) (size bytes:Nat) (ht:P.underlying t=some (.slice e)) (hi:P.info? e=some i) (hz:i.zero=some z) (hs:i.size=size) (hb:i.bytes=bytes) (vQ:z.cells.size=size) (h0:0<size)
  (v:Value) (n:Nat) (xs:List Value) (hv:a.eval s=v) (aV:w.ownsRow base e size v n xs) (A:Option Addr) (m c:Nat) (dZ:List Value) (hx:a.eval x= .slice A m c) (hg:yT w A m size dZ) (h1:∀u∈dZ,u.oneCell'=true) (v8:n+m<=maxLen) (lB:(n+m)*bytes<=140737488355328) (kR:base<=w.heap.size)
  (h:∀v' w',w'.ownsRow base e size v' (n+m) (xs++dZ)->w.grownBy w' v.ownBlock->(v'.ownBlock=v.ownBlock∨v'.ownBlock=some w.heap.size)->wpList P ops Q rest (a.put o.dst v') w'):wpList P ops Q (o::rest) a w:=
 wpList_plain jv fun _ hK=>sS w s x t ho base e i z size bytes ht hi hz hs hb vQ h0 v n xs hv aV A m c dZ hx hg h1 v8 lB kR fun v' w' q1 q2 q3=>hK _ _ (h v' w' q1 q2 q3)
theorem vx{ops:Array Oper}{o:Oper}{a:Act}{K:Act->World->Prop}{Q:Exit->Act->World->Prop}{E:Prop}(jv:o.guard=none)(s x:Operand)(t:TypeId)
  (ho:o.op= .call {callee:= .builtin .append,args:= #[s,x],argTypes:= #[t,t]}) (base:Nat) (e:TypeId) (i:TypeInfo) (z:Value) (size bytes:Nat) (ht:P.underlying t=some (.slice e)) (hi:P.info? e=some i) (hz:i.zero=some z) (hs:i.size=size) (hb:i.bytes=bytes) (vQ:z.cells.size=size) (h0:0<size)
  (v:Value) (n:Nat) (xs:List Value) (hv:a.eval s=v) (aV:w.ownsRow base e size v n xs) (A:Option Addr) (m c:Nat) (dZ:List Value) (hx:a.eval x= .slice A m c) (hg:yT w A m size dZ) (h1:∀u∈dZ,u.oneCell'=true) (v8:n+m<=maxLen) (lB:(n+m)*bytes<=140737488355328) (kR:base<=w.heap.size)
  (h:∀v' w',w'.ownsRow base e size v' (n+m) (xs++dZ)->w.grownBy w' v.ownBlock->(v'.ownBlock=v.ownBlock∨v'.ownBlock=some w.heap.size)->K (a.put o.dst v') w'):
  if Region.wanted o (yielded ops a.tmps)=true then Oper.wp P o a w K Q else E:=by
 rw[if_pos (by simp[Region.wanted,jv])];exact sS w s x t ho base e i z size bytes ht hi hz hs hb vQ h0 v n xs hv aV A m c dZ hx hg h1 v8 lB kR h
end
theorem jS{w:World}{base base' e size n:Nat}{v:Value}{xs:List Value}(h:w.ownsRow base e size v n xs)(hb:base'<=base):w.ownsRow base' e size v n xs:=by
 refine⟨h.1,?_⟩;rcases h.2 with q|⟨g,cap,cur,e,h1,h2⟩
 ·exact .inl q
 exact .inr ⟨g,cap,cur,e,by omega,h2⟩
theorem nj{w:World}{base e size n:Nat}{v:Value}{xs:List Value}(h:w.ownsRow base e size v n xs):∀g,v.ownBlock=some g->base<=g/\g<w.heap.size:=by
 intro g hg;rcases h.2 with⟨rfl,_⟩|⟨g',cap,cur,rfl,h1,h2,_⟩
 ·cases hg
 simp[Value.ownBlock] at hg;subst hg;exact⟨h1,(Array.getElem?_eq_some_iff.1 h2).1⟩
end
end Go.Proofs.YtlmhkjdkcoiioaaGreatDoor
