/- Lemmas and contracts for the proof of LinkAnswers (several texts in one, printed by wip/tools/pack.py): Ka TeA Kd TeB. -/
import Derived.Test.YtdjhnfopdlgliaaGreatRows
import Derived.WalkKit
import Derived.WalkSpells
import Derived.WalkLawsBesides
import Derived.Deep.QuietTactic
import Derived.BigQuiet
import Derived.Lib.Hide
import Derived.StillTailTactics
import Derived.Deep.RegionHeld3
import Derived.Deep.DrawnRows
import Derived.Deep.OwnRows
import Derived.Lib.Strings
import Derived.OpenShut
import Derived.Maps.AppendAt
import Derived.Deep.RegionLaw
import Derived.Deep.AppendLies
import Derived.Deep.DeepCutAuto
set_option maxRecDepth 100000
set_option maxHeartbeats 16000000
/-! Worlds that have only grown:'xt w O d' is the world w with the blocks O behind its own and the count of draws at d. Every world that is as w was below w's own size is such a one. No conditions. -/
set_option linter.unusedVariables false
set_option linter.unusedSimpArgs false
namespace Go.Proofs.YtdjhnfopdlgliaaGreat
open Go.RowKit
def xt(w:World)(O:Array Obj)(d:Nat):World:={w with heap:=w.heap++O,drawn:=d}
@[simp,go_sem] theorem heap_size_xt (w:World) (O:Array Obj) (d:Nat):(xt w O d).heap.size=w.heap.size+O.size:=by
 simp[xt]
@[simp,go_sem] theorem tape_xt (w:World) (O:Array Obj) (d:Nat):(xt w O d).tape=w.tape:=rfl
theorem block_xt(w:World)(O:Array Obj)(d k:Nat)(h:k<w.heap.size):(xt w O d).heap[k]?=w.heap[k]?:=by
 simp only[xt];rw[Array.getElem?_append_left h]
def Has(w:World)(b:Nat):Prop:=b<w.heap.size
@[simp,go_sem] theorem has_alloc (w:World) (o:Obj) (b:Nat):Has (w.alloc o) b=(b=w.heap.size∨Has w b):=by
 simp only[Has,World.size_alloc,eq_iff_iff];omega
@[simp,go_sem] theorem has_drew (w:World) (b:Nat):Has w.drew b=Has w b:=rfl
@[simp,go_sem] theorem has_drewN (w:World) (n b:Nat):Has (w.drewN n) b=Has w b:=rfl
@[simp,go_sem] theorem has_setCell (w:World) (a:Addr) (v:Value) (b:Nat):Has (w.setCell a v) b=Has w b:=by
 simp[Has,World.setCell]
@[simp,go_sem] theorem has_xt (w:World) (O:Array Obj) (d b:Nat):Has (xt w O d) b=(Has w b∨(w.heap.size≤b∧b<w.heap.size+O.size)):=by
 simp only[Has,heap_size_xt,eq_iff_iff];omega
theorem has_of_cell{w:World}{b o:Nat}{s:Option Nat}{v:Value}(h:w.cell? ⟨b,o,s⟩=some v):Has w b:=by
 unfold Has
 rcases Nat.lt_or_ge b w.heap.size with h1|h1
 ·exact h1
 ·simp[World.cell?,Array.getElem?_eq_none h1] at h
@[simp,go_sem] theorem cell?_xt {w:World} {O:Array Obj} {d b o:Nat} {s:Option Nat} (h:Has w b):(xt w O d).cell? ⟨b,o,s⟩=w.cell? ⟨b,o,s⟩:=
 World.cell?_of_block (w:=w) (block_xt w O d b h)
@[simp,go_sem] theorem frozen?_xt {w:World} {O:Array Obj} {d b o:Nat} {s:Option Nat} (h:Has w b):(xt w O d).frozen? ⟨b,o,s⟩=w.frozen? ⟨b,o,s⟩:=
 World.frozen?_of_block (w:=w) (block_xt w O d b h)
@[simp,go_sem] theorem cell?_alloc_has {w:World} {x:Obj} {b o:Nat} {s:Option Nat} (h:Has w b):(w.alloc x).cell? ⟨b,o,s⟩=w.cell? ⟨b,o,s⟩:=
 World.cell?_alloc_lt w x ⟨b,o,s⟩ h
@[simp,go_sem] theorem frozen?_alloc_has {w:World} {x:Obj} {b o:Nat} {s:Option Nat} (h:Has w b):(w.alloc x).frozen? ⟨b,o,s⟩=w.frozen? ⟨b,o,s⟩:=
 World.frozen?_of_block (w:=w) (Below.heap_alloc w x b h)
@[simp,go_sem] theorem xt_xt (w:World) (O O':Array Obj) (d d':Nat):xt (xt w O d) O' d'=xt w (O++O') d':=by
 simp[xt]
@[simp,go_sem] theorem drew_xt (w:World) (O:Array Obj) (d:Nat):(xt w O d).drew=xt w O (d+1):=rfl
@[simp,go_sem] theorem xt_drew (w:World) (O:Array Obj) (d:Nat):xt w.drew O d=xt w O d:=rfl
@[simp,go_sem] theorem xt_drewN (w:World) (O:Array Obj) (n d:Nat):xt (w.drewN n) O d=xt w O d:=rfl
theorem setCell_xt(w:World)(O:Array Obj)(d:Nat)(a:Addr)(v:Value)(h:a.block<w.heap.size):(xt w O d).setCell a v=xt (w.setCell a v) O d:=by
 unfold xt World.setCell
 congr 1
 apply Array.ext_getElem?
 intro i
 simp only[Array.getElem?_modify,Array.getElem?_append,Array.size_modify]
 by_cases e:a.block=i
 ·subst e;simp[h]
 ·simp[e]
@[simp,go_sem] theorem setCell_xt_has {w:World} {O:Array Obj} {d b o:Nat} {s:Option Nat} {v:Value} (h:Has w b):(xt w O d).setCell ⟨b,o,s⟩ v=xt (w.setCell ⟨b,o,s⟩ v) O d:=
 setCell_xt w O d ⟨b,o,s⟩ v h
@[simp,go_sem] theorem setCell_alloc_has {w:World} {x:Obj} {b o:Nat} {v:Value} (h:Has w b):(w.alloc x).setCell ⟨b,o,none⟩ v=(w.setCell ⟨b,o,none⟩ v).alloc x:=
 World.setCell_alloc_past x b o v h
theorem below_xt(w:World)(O:Array Obj)(d:Nat):Below w.heap.size w (xt w O d):=
 ⟨rfl,rfl,rfl,by simp,fun k hk=>block_xt w O d k hk⟩
theorem below_of_xt{w w':World}(h:∃O d,w'=xt w O d):Below w.heap.size w w':=by
 obtain⟨O,d,rfl⟩:=h;exact below_xt w O d
theorem xt_of_below{w w':World}(h:Below w.heap.size w w'):∃O d,w'=xt w O d:=by
 refine⟨w'.heap.extract w.heap.size w'.heap.size,w'.drawn,?_⟩
 obtain⟨h1,h2,h3,h4,h5⟩:=h
 cases w' with
 |mk heap tape drawn os output=>
 simp only at h1 h2 h3 h4 h5
 subst h1 h2 h3
 simp only[xt,World.mk.injEq,and_true]
 apply Array.ext_getElem?
 intro i
 by_cases hi:i<w.heap.size
 ·rw[h5 i hi,Array.getElem?_append_left hi]
 ·rw[Array.getElem?_append_right (by omega),Array.getElem?_extract]
  by_cases h':i<heap.size
  ·rw[if_pos (by omega)];congr 1;omega
  ·rw[if_neg (by omega),Array.getElem?_eq_none (by omega)]
theorem xt_self(w:World):w=xt w #[] w.drawn:=by simp[xt]
theorem grows_refl(w:World):∃O d,w=xt w O d:=⟨_,_,xt_self w⟩
theorem grows_trans{w w' w'':World}(h:∃O d,w'=xt w O d)(k:∃O d,w''=xt w' O d):∃O d,w''=xt w O d:=by
 obtain⟨O,d,rfl⟩:=h;obtain⟨O',d',rfl⟩:=k;exact⟨O++O',d',xt_xt _ _ _ _ _⟩
structure More where
 o:Array Obj
 d:Nat
instance:Nonempty More:=⟨⟨#[],0⟩⟩
theorem wp_region_grows{P:Program}{id:Nat}{Q:Exit→Act→World→Prop}{a:Act}{w:World}{l:List Oper}(hm:P.follows .mixedOrders=true)(hB:Region.lexB .any l.toArray=true)
  (h:wpQuiet P l.toArray (fun w'=>∃x:More,w'=xt w x.o x.d) (fun a'=>∀w',(∃x:More,w'=xt w x.o x.d)→Q .normal a' w') l a):(Code.region id l.toArray true).wp P Q a w:=
 wp_region_quiet (C:=fun w'=>∃x:More,w'=xt w x.o x.d) hm hB ⟨⟨#[],w.drawn+1⟩,by simp[xt]⟩ h
def Gr(w w':World):Prop:=∃O d,w'=xt w O d
theorem Gr.below{w w':World}(h:Gr w w'):Below w.heap.size w w':=below_of_xt h
theorem Gr.of_below{w w':World}(h:Below w.heap.size w w'):Gr w w':=xt_of_below h
theorem Gr.refl(w:World):Gr w w:=grows_refl w
theorem Gr.trans{w w' w'':World}(h:Gr w w')(k:Gr w' w''):Gr w w'':=grows_trans h k
theorem Gr.xt{w w':World}(O:Array Obj)(d:Nat)(h:Gr w w'):Gr w (xt w' O d):=grows_trans h ⟨O,d,rfl⟩
theorem Gr.drew{w w':World}(h:Gr w w'):Gr w w'.drew:= .of_below h.below.drew
theorem Gr.drewN{w w':World}(n:Nat)(h:Gr w w'):Gr w (w'.drewN n):=by
 obtain⟨O,d,rfl⟩:=h;exact⟨O,d+n,rfl⟩
theorem Gr.size{w w':World}(h:Gr w w'):w.heap.size≤w'.heap.size:=h.below.size
theorem Gr.alloc{w w':World}(o:Obj)(h:Gr w w'):Gr w (w'.alloc o):= .of_below (h.below.alloc h.size o)
theorem Gr.setCell{w w':World}{a:Addr}(hb:w.heap.size≤a.block)(v:Value)(h:Gr w w'):Gr w (w'.setCell a v):= .of_below (h.below.setCell hb v)
theorem ret_bool{a b:Bool}(h:a=b):Ending.returned (.bool a)= .returned (.bool b):=by rw[h]
theorem ret_int{k:IntKind}{a b:Int}(h:a=b):Ending.returned (.int k a)= .returned (.int k b):=by rw[h]
def Grows(w:World)(v:Value)(e:Ending)(w':World):Prop:=e= .returned v∧Gr w w'
theorem calls_grows{P:Program}{f:FuncId}{args:Array Value}{w:World}{O:Array Obj}{d:Nat}{v:Value}
  (h:Calls P f args (xt w O d) (Grows (xt w O d) v)):Calls P f args (xt w O d) fun e w''=>e= .returned v∧∃x:More,w''=xt w x.o x.d:=
 h.mono fun _ _ ⟨he,O',d',hw⟩=>⟨he,⟨O++O',d'⟩,by rw[hw,xt_xt]⟩
end Go.Proofs.YtdjhnfopdlgliaaGreat
/-! A region that draws its order:operations that are quiet in a class of worlds stand ahead of a tail whose order is forced and which waits for all of them. One walk,in the order of the text,serves every order. No conditions. -/
namespace Go.Proofs.YtdjhnfopdlgliaaGreat
open Go.RowKit
section
variable {P:Program} {ops:Array Oper} {md:Region.Mode} {C:World→Prop} {n:Nat} {L:Array Bool→Act→Prop}
end
end Go.Proofs.YtdjhnfopdlgliaaGreat
/-! Lists in memory:what a slice reads as,and that this stays while memory only grows. No conditions. -/
namespace Go.Proofs.YtdjhnfopdlgliaaGreat
open Go.RowKit
def Wide(x:Int):Prop:= -9223372036854775808≤x∧x≤9223372036854775807
def Fit(n:Nat):Prop:=n≤140737488351232
def SlOf{α:Type}(n:Nat)(R:World→Nat→Nat→α→Prop)(w:World)(ao:Option Addr)(xs:List α):Prop:=
 ∀k (h:k<xs.length),∃b o,ao=some ⟨b,o,none⟩∧R w b (o+k*n) xs[k]
def Mono{α:Type}(R:World→Nat→Nat→α→Prop):Prop:=∀w w' b o x,Gr w w'→R w b o x→R w' b o x
theorem SlOf.gr{α:Type}{n:Nat}{R:World→Nat→Nat→α→Prop}(hR:Mono R){w w':World}{ao:Option Addr}{xs:List α}(h:SlOf n R w ao xs)(hg:Gr w w'):SlOf n R w' ao xs:=by
 intro k hk
 obtain⟨b,o,h1,h2⟩:=h k hk
 exact⟨b,o,h1,hR _ _ _ _ _ hg h2⟩
theorem SlOf.nil{α:Type}(n:Nat)(R:World→Nat→Nat→α→Prop)(w:World)(ao:Option Addr):SlOf n R w ao []:=fun k h=>by simp at h
theorem SlOf.one{α:Type}{R:World→Nat→Nat→α→Prop}{w:World}{ao:Option Addr}{xs:List α}(h:SlOf 1 R w ao xs)(k:Nat)(hk:k<xs.length):∃b o,ao=some ⟨b,o,none⟩∧R w b (o+k) xs[k]:=by
 have:=h k hk;rwa [Nat.mul_one] at this
theorem cell_gr{w w':World}{b o:Nat}{s:Option Nat}{v:Value}(hg:Gr w w')(h:w.cell? ⟨b,o,s⟩=some v):w'.cell? ⟨b,o,s⟩=some v:=by
 obtain⟨O,d,rfl⟩:=hg
 rw[cell?_xt (has_of_cell h)];exact h
def RI(w:World)(b o:Nat)(x:Int):Prop:=w.cell? ⟨b,o,none⟩=some (.int .i64 x)∧Wide x
def RB(w:World)(b o:Nat)(x:Bool):Prop:=w.cell? ⟨b,o,none⟩=some (.bool x)
def RSl{α:Type}(n:Nat)(R:World→Nat→Nat→α→Prop)(w:World)(b o:Nat)(xs:List α):Prop:=
 ∃ao cap,w.cell? ⟨b,o,none⟩=some (.slice ao xs.length cap)∧xs.length≤cap∧Fit xs.length∧SlOf n R w ao xs
theorem RI.mono:Mono RI:=fun _ _ _ _ _ hg h=>⟨cell_gr hg h.1,h.2⟩
theorem RSl.mono{α:Type}{n:Nat}{R:World→Nat→Nat→α→Prop}(hR:Mono R):Mono (RSl n R):=fun _ _ _ _ _ hg ⟨ao,cap,h1,h2,h3,h4⟩=>
 ⟨ao,cap,cell_gr hg h1,h2,h3,h4.gr hR hg⟩
theorem SlOf.giI{w w':World}{ao:Option Addr}{xs:List Int}(h:SlOf 1 RI w ao xs)(hg:Gr w w'):SlOf 1 RI w' ao xs:=h.gr RI.mono hg
/-! Rows of the call's own -/
def Row(w:World)(B T:Nat)(vs:List Value):Prop:=w.heap[B]?=some (.cells vs.toArray T (0,0))
theorem Row.cell{w:World}{B T:Nat}{vs:List Value}(h:Row w B T vs)(k:Nat)(hk:k<vs.length):w.cell? ⟨B,k,none⟩=some vs[k]:=by
 unfold Row at h
 simp[World.cell?,h,hk]
theorem Row.free{w:World}{B T:Nat}{vs:List Value}(h:Row w B T vs)(k:Nat):w.frozen? ⟨B,k,none⟩=false:=by
 unfold Row at h
 simp[World.frozen?,h]
theorem Row.has{w:World}{B T:Nat}{vs:List Value}(h:Row w B T vs):Has w B:=by
 unfold Row at h
 exact(Array.getElem?_eq_some_iff.1 h).1
theorem Row.set{w:World}{B T:Nat}{vs:List Value}(h:Row w B T vs)(k:Nat)(v:Value):Row (w.setCell ⟨B,k,none⟩ v) B T (vs.set k v):=by
 unfold Row at*
 simp[World.setCell,Array.getElem?_modify,h]
theorem Row.other{w:World}{B T:Nat}{vs:List Value}(h:Row w B T vs)(a:Addr)(v:Value)(ha:a.block≠B):Row (w.setCell a v) B T vs:=by
 unfold Row at*
 simp[World.setCell,Array.getElem?_modify,ha,h]
theorem Row.oth{w:World}{B T b o:Nat}{vs:List Value}{v:Value}(h:Row w B T vs)(ha:b≠B):Row (w.setCell ⟨b,o,none⟩ v) B T vs:=h.other _ _ ha
theorem Gr.setc{w w':World}{b o:Nat}{v:Value}(hb:w.heap.size≤b)(h:Gr w w'):Gr w (w'.setCell ⟨b,o,none⟩ v):=h.setCell hb v
theorem Row.gr{w w':World}{B T:Nat}{vs:List Value}(h:Row w B T vs)(hg:Gr w w'):Row w' B T vs:=by
 have hb:=h.has
 unfold Row at*
 obtain⟨O,d,rfl⟩:=hg
 rw[block_xt w O d B hb];exact h
theorem Row.alloc{w:World}{B T:Nat}{vs:List Value}(o:Obj)(h:Row w B T vs):Row (w.alloc o) B T vs:=h.gr ((Gr.refl w).alloc o)
theorem Row.xt{w:World}{B T:Nat}{vs:List Value}(O:Array Obj)(d:Nat)(h:Row w B T vs):Row (xt w O d) B T vs:=h.gr ((Gr.refl w).xt O d)
theorem Row.drew{w:World}{B T:Nat}{vs:List Value}(h:Row w B T vs):Row w.drew B T vs:=h.gr (Gr.refl w).drew
theorem Row.drewN{w:World}{B T:Nat}{vs:List Value}(n:Nat)(h:Row w B T vs):Row (w.drewN n) B T vs:=h.gr ((Gr.refl w).drewN n)
theorem Row.new(w:World)(arr:Array Value)(T:Nat):Row (w.alloc (.cells arr T)) w.heap.size T arr.toList:=by
 unfold Row
 rw[Go.Deep.blk_alloc_new w _]
end Go.Proofs.YtdjhnfopdlgliaaGreat
/-! The tape that the statements read their numbers from:what its functions return,as far as the statements need it (a number in the range that is asked for),and that they move the tape's place and nothing else. -/
namespace Go.Proofs.YtdjhnfopdlgliaaGreat
open Go.RowKit
theorem setCell_id{w:World}{a:Addr}{v:Value}(h:w.cell? a=some v):w.setCell a v=w:=by
 unfold World.setCell
 unfold World.cell? at h
 cases w with
 |mk heap tape drawn os output=>
 simp only[World.mk.injEq,and_true] at*
 apply Array.ext_getElem?
 intro i
 rw[Array.getElem?_modify]
 split
 ·rename_i e
  subst e
  cases hb:heap[a.block]? with
  |none=>simp
  |some o=>
   simp only[hb] at h
   cases o with
   |cells c t f=>
    simp only at h
    split at h
    ·cases h
    ·rename_i hs
     simp only[Option.map_some,Option.some.injEq,hs]
     congr 1
     apply Array.ext_getElem?
     intro j
     simp only[Bool.false_eq_true,if_false]
     rw[Array.getElem?_setIfInBounds]
     split
     ·rename_i e;subst e;split
      ·exact h.symm
      ·rename_i hn;rw[Array.getElem?_eq_none (by omega)] at h;cases h
     ·rfl
   |_=>cases h
 ·rfl
@[simp,go_sem] theorem setCell_setCell (w:World) (a:Addr) (u v:Value):(w.setCell a u).setCell a v=w.setCell a v:=by
 unfold World.setCell
 congr 1
 apply Array.ext_getElem?
 intro i
 simp only[Array.getElem?_modify]
 split
 ·cases w.heap[i]? with
  |none=>rfl
  |some o=>
   cases o with
   |cells c t f=>
    simp only[Option.map_some,Option.some.injEq]
    congr 1
    split
    ·rfl
    ·apply Array.ext_getElem?
     intro j
     simp only[Array.getElem?_setIfInBounds,Array.size_setIfInBounds]
     split<;>rfl
   |_=>rfl
 ·rfl
def IntsIn(w:World)(b:Nat)(ao:Option Addr)(len:Nat):Prop:=
 ∀k,k<len→∃eb eo x,ao=some ⟨eb,eo,none⟩∧eb≠b∧w.cell? ⟨eb,eo+k,none⟩=some (.int .i64 x)∧ -9223372036854775808≤x∧x≤9223372036854775807
def Tape(w:World)(b:Nat)(p:Int)(len:Nat):Prop:=
 ∃ao cap,w.cell? ⟨b,0,none⟩=some (.slice ao len cap)∧w.cell? ⟨b,1,none⟩=some (.int .i64 p)∧w.frozen? ⟨b,1,none⟩=false∧0≤p∧p≤len∧len≤500∧IntsIn w b ao len
theorem Tape.has{w:World}{b:Nat}{p:Int}{len:Nat}(h:Tape w b p len):Has w b:=by
 obtain⟨ao,cap,h1,_⟩:=h;exact has_of_cell h1
theorem IntsIn.gr{w w':World}{b:Nat}{ao:Option Addr}{len:Nat}(h:IntsIn w b ao len)(hg:Gr w w'):IntsIn w' b ao len:=by
 intro k hk
 obtain⟨eb,eo,x,h1,h2,h3,h4⟩:=h k hk
 obtain⟨O,d,rfl⟩:=hg
 exact⟨eb,eo,x,h1,h2,by rw[cell?_xt (has_of_cell h3)];exact h3,h4⟩
theorem Tape.gr{w w':World}{b:Nat}{p:Int}{len:Nat}(h:Tape w b p len)(hg:Gr w w'):Tape w' b p len:=by
 have hb:=h.has
 obtain⟨ao,cap,h1,h2,h3,h4,h5,h6,h7⟩:=h
 have h7':=h7.gr hg
 obtain⟨O,d,rfl⟩:=hg
 exact⟨ao,cap,by rw[cell?_xt hb];exact h1,by rw[cell?_xt hb];exact h2,by rw[frozen?_xt hb];exact h3,h4,h5,h6,h7'⟩
theorem Tape.set{w:World}{b:Nat}{p:Int}{len:Nat}(h:Tape w b p len){p':Int}(h0:0≤p')(h1:p'≤len):Tape (w.setCell ⟨b,1,none⟩ (.int .i64 p')) b p' len:=by
 obtain⟨ao,cap,c0,c1,c2,c3,c4,c5,c6⟩:=h
 refine⟨ao,cap,?_,?_,?_,h0,h1,c5,?_⟩
 ·rw[World.cell?_setCell_other _ _ _ _ (by simp)];exact c0
 ·exact World.cell?_setCell_same _ _ _ c1
 ·rw[World.frozen?_setCell];exact c2
 ·intro k hk
  obtain⟨eb,eo,x,d1,d2,d3,d4⟩:=c6 k hk
  exact⟨eb,eo,x,d1,d2,by rw[World.cell?_setCell_other _ _ _ _ (by simp)];exact d3,d4⟩
def Reads(w:World)(b len:Nat)(S:Int→Prop)(e:Ending)(w':World):Prop:=
 ∃x p',e= .returned (.int .i64 x)∧S x∧0≤p'∧p'≤(len:Int)∧Gr (w.setCell ⟨b,1,none⟩ (.int .i64 p')) w'
def InTo(lo hi x:Int):Prop:=lo≤x∧x≤hi
theorem raw_any(w:World)(b len:Nat)(p:Int)(h:Tape w b p len):
  Calls Tryz.prog 92 #[.pointer (some ⟨b,0,none⟩)] w (Reads w b len Wide):=by
 have hb:=h.has
 obtain⟨ao,cap,c0,c1,c2,c3,c4,c5,c6⟩:=h
 by_cases hp:p<len
 ·obtain⟨k,rfl⟩:=Int.eq_ofNat_of_zero_le c3
  obtain⟨eb,eo,x,d1,d2,d3,d4,d5⟩:=c6 k (by omega)
  subst d1
  have d6:=has_of_cell d3
  have d7:(w.setCell ⟨b,1,none⟩ (.int .i64 (k+1))).cell? ⟨eb,eo+k,none⟩=some (.int .i64 x):=by
   rw[World.cell?_setCell_other _ _ _ _ (by simp)];exact d3
  clear c6
  go_enter Tryz.func92,Tryz.ntmps92
  go_wp2
  go_quiet (fail)
  go_wp2
  have e1:(k:Int)+1-1=k:=by omega
  go_quiet (fail)
  go_wp2
  go_ret
  refine⟨x,(k:Int)+1,rfl,⟨d4,d5⟩,by omega,by omega,?_⟩
  repeat(first|exact Gr.refl _|refine Gr.xt _ _ ?_|refine Gr.alloc _ ?_|refine Gr.drewN _ ?_)
 ·have hp':(len:Int)≤p:=by omega
  clear c6
  go_enter Tryz.func92,Tryz.ntmps92
  go_wp2
  go_quiet (fail)
  go_wp2
  go_ret
  exact⟨0,p,rfl,by unfold Wide;omega,c3,c4,by rw[setCell_id c1];exact(Gr.refl w).drewN _⟩
theorem tmod_fix(x n:Int)(hn:1≤n):(x.tmod n<0→x.tmod n+n=x%n)∧(0≤x.tmod n→x.tmod n=x%n):=by
 have h:= @Int.tmod_eq_emod x n
 have h1:=Int.emod_nonneg x (show n≠0 by omega)
 have h2:=Int.emod_lt_of_pos x (show 0<n by omega)
 have h3:(n.natAbs:Int)=n:=by omega
 split at h<;>constructor<;>intro h4<;>omega
theorem mod_any(x n:Int)(w:World)(hx:Wide x)(hn:1≤n)(hn1:n≤9223372036854775807):
  Calls Tryz.prog 91 #[.int .i64 x,.int .i64 n] w fun e w'=>e= .returned (.int .i64 (x%n))∧w=w':=by
 obtain⟨hx0,hx1⟩:=hx
 have h:=tmod_fix x n hn
 have h1:=Int.emod_nonneg x (show n≠0 by omega)
 have h2:=Int.emod_lt_of_pos x (show 0<n by omega)
 have h3:=Int.tmod_lt_of_pos x (show 0<n by omega)
 have h4: -n≤x.tmod n:=by
  rcases Int.lt_or_le (x.tmod n) 0 with q|q
  ·have:=h.1 q;omega
  ·omega
 have H:=Lib.hid h
 clear h
 by_cases hs:x.tmod n<0
 ·have:=H.out.1 hs
  have T:=Lib.hid this
  clear this
  go_enter Tryz.func91,Tryz.ntmps91
  go_wp2
  go_ret
  exact⟨ret_int T.out,rfl⟩
 ·have:=H.out.2 (by omega)
  have T:=Lib.hid this
  clear this
  go_enter Tryz.func91,Tryz.ntmps91
  go_wp2
  go_ret
  exact⟨ret_int T.out,rfl⟩
theorem n_any(w:World)(b len:Nat)(p n:Int)(h:Tape w b p len)(hn:1≤n)(hn1:n≤9223372036854775807):
  Calls Tryz.prog 45 #[.pointer (some ⟨b,0,none⟩),.int .i64 n] w (Reads w b len (InTo 0 (n-1))):=by
 have H:=Lib.hid h
 clear h
 go_enter Tryz.func45,Tryz.ntmps45
 go_wp2_with fail
 refine(raw_any _ b len p H.out).mono ?_
 rintro e w' ⟨x,p',rfl,hx,q0,q1,O,d,rfl⟩
 have hx0:=hx.1
 have hx1:=hx.2
 go_wp2_with fail
 refine(mod_any x n _ hx hn hn1).mono ?_
 rintro e w' ⟨rfl,rfl⟩
 go_wp2_with fail
 go_ret
 exact⟨x%n,p',rfl,⟨Int.emod_nonneg x (show n≠0 by omega),by have:=Int.emod_lt_of_pos x (show 0<n by omega);omega⟩,q0,q1,O,d,rfl⟩
theorem range_any(w:World)(b len:Nat)(p lo hi:Int)(h:Tape w b p len)(hl:0≤lo)(hh:lo≤hi)(hh1:hi≤9223372036854775806):
  Calls Tryz.prog 25 #[.pointer (some ⟨b,0,none⟩),.int .i64 lo,.int .i64 hi] w (Reads w b len (InTo lo hi)):=by
 have H:=Lib.hid h
 clear h
 go_enter Tryz.func25,Tryz.ntmps25
 go_wp2_with fail
 refine(n_any _ b len p _ H.out (by omega) (by omega)).mono ?_
 rintro e w' ⟨x,p',rfl,hx,q0,q1,O,d,rfl⟩
 have hx0:=hx.1
 have hx1:=hx.2
 go_wp2_with fail
 go_ret
 exact⟨lo+x,p',rfl,⟨by omega,by omega⟩,q0,q1,O,d,rfl⟩
theorem pick_any(w:World)(b len:Nat)(p:Int)(h:Tape w b p len)(eb n:Nat)(S:Int→Prop)(hn:1≤n)(hn1:n≤1000)(hne:eb≠b)(hel:∀k,k<n→∃x,w.cell? ⟨eb,k,none⟩=some (.int .i64 x)∧S x):
  Calls Tryz.prog 47 #[.pointer (some ⟨b,0,none⟩),.slice (some ⟨eb,0,none⟩) n n] w (Reads w b len S):=by
 have H:=Lib.hid h
 have HE:=Lib.hid hel
 clear h hel
 go_enter Tryz.func47,Tryz.ntmps47
 go_wp2_with fail
 refine(n_any _ b len p _ H.out (by omega) (by omega)).mono ?_
 rintro e w' ⟨y,p',rfl,hy,q0,q1,O,d,rfl⟩
 have hy0:=hy.1
 have hy1:=hy.2
 obtain⟨k,rfl⟩:=Int.eq_ofNat_of_zero_le hy0
 obtain⟨x,hx,hS⟩:=HE.out k (by omega)
 have hHas:=has_of_cell hx
 have hx':(w.setCell ⟨b,1,none⟩ (.int .i64 p')).cell? ⟨eb,k,none⟩=some (.int .i64 x):=by
  rw[World.cell?_setCell_other _ _ _ _ (by simp)];exact hx
 have hk:(k:Int)<n:=by omega
 have hS':=Lib.hid hS
 clear hS
 go_wp2_with fail
 go_ret
 exact⟨x,p',rfl,hS'.out,q0,q1,O,d,rfl⟩
theorem grr{w w':World}(h:Gr w w':=by repeat(first|with_reducible exact Gr.refl _|with_reducible refine Gr.drew ?_|with_reducible refine Gr.drewN _ ?_|with_reducible refine Gr.xt _ _ ?_|with_reducible refine Gr.alloc _ ?_)):Gr w w':=h
end Go.Proofs.YtdjhnfopdlgliaaGreat
namespace Go.Proofs.YtdjhnfopdlgliaaGreat
open Go.RowKit
abbrev St:=List UInt8
def bs(l:St):ByteArray:=⟨l.toArray⟩
@[simp,go_sem] theorem bs_data (l:St):(bs l).data.toList=l:=by simp[bs]
@[simp,go_sem] theorem bs_size (l:St):(bs l).size=l.length:=by simp[bs,ByteArray.size]
@[simp,go_sem] theorem bs_toList (l:St):(bs l).toList=l:=by rw[Lib.toList_data,bs_data]
theorem bs_of(s:ByteArray):s=bs s.data.toList:=by
 unfold bs;rw[Lib.mk_data]
@[simp,go_sem] theorem bs_append (a b:St):bs a++bs b=bs (a++b):=by
 rw[bs_of (bs a++bs b)];simp[bs,ByteArray.data_append]
@[simp,go_sem] theorem bs_extract (l:St) (a b:Nat):(bs l).extract a b=bs ((l.drop a).take (b-a)):=by
 rw[bs_of ((bs l).extract a b),Lib.extract_data,bs_data]
@[simp,go_sem] theorem bs_get (l:St) (k:Nat) (h:k<(bs l).size):(bs l)[k]'h=l[k]'(by simpa using h):=by
 simp[bs,ByteArray.getElem_eq_getElem_data]
@[simp,go_sem] theorem lit_append (a:UInt8) (l:St):(⟨#[a]⟩:ByteArray)++bs l=bs (a::l):=bs_append [a] l
theorem bs_inj{a b:St}(h:bs a=bs b):a=b:=by rw[←bs_data a,h,bs_data]
structure Prp where
 name:St
 val:St
 deriving DecidableEq
structure Nod where
 parent:Int
 name:St
 props:List Prp
 deriving DecidableEq
instance:Inhabited Prp:=⟨⟨[],[]⟩⟩
instance:Inhabited Nod:=⟨⟨0,[],[]⟩⟩
abbrev Tr:=List Nod
def RS(w:World)(b o:Nat)(s:St):Prop:=w.cell? ⟨b,o,none⟩=some (.string (bs s))∧s.length≤9223372036854775807
def RPrp(w:World)(b o:Nat)(p:Prp):Prop:=RS w b o p.name∧RS w b (o+1) p.val
def RNod(w:World)(b o:Nat)(n:Nod):Prop:=RI w b o n.parent∧RS w b (o+1) n.name∧RSl 2 RPrp w b (o+2) n.props
theorem RS.mono:Mono RS:=fun _ _ _ _ _ hg h=>⟨cell_gr hg h.1,h.2⟩
theorem RPrp.mono:Mono RPrp:=fun _ _ _ _ _ hg h=>⟨RS.mono _ _ _ _ _ hg h.1,RS.mono _ _ _ _ _ hg h.2⟩
theorem RNod.mono:Mono RNod:=fun _ _ _ _ _ hg h=>⟨RI.mono _ _ _ _ _ hg h.1,RS.mono _ _ _ _ _ hg h.2.1,RSl.mono RPrp.mono _ _ _ _ _ hg h.2.2⟩
/-! Names. -/
def letC(c:Int):Bool:=decide (97≤c)&&decide (c≤122)||decide (65≤c)&&decide (c≤90)
def digC(c:Int):Bool:=decide (48≤c)&&decide (c≤57)
def wrdC(c:Int):Bool:=letC c||digC c||c==95
def sgnS:St:= [44,46,43,45,63,35,64]
def namC(c:UInt8):Bool:=wrdC c.toNat||sgnS.contains c
def chr(s:St)(i:Nat):Int:=((s.getD i 0).toNat:Int)
def nameOk(s:St):Bool:=decide (1≤s.length)&&decide (s.length≤31)&&(letC (chr s 0)||chr s 0==95)&&s.all namC
def undr(s:St):St:=if s.head?=some 35 then 95::s.tail else s
def propOk(s:St):Bool:=nameOk (undr s)&&!(undr s).contains 64
def ltS(a b:St):Bool:=Op.bytesLess a b
/-! The check. -/
def nodNm(i:Nat)(n:Nod):Bool:=(if i=0 then decide (n.parent= -1)&&decide (n.name= []) else decide (0≤n.parent)&&decide (n.parent<i)&&nameOk n.name)&&n.props.all (fun p=>propOk p.name)
def namedT(ts:Tr):Bool:=(List.range ts.length).all (fun i=>nodNm i (ts.getD i default))
def ascP(ps:List Prp):Bool:=(List.range (ps.length-1)).all (fun k=>ltS (ps.getD k default).name (ps.getD (k+1) default).name)
def par(ts:Tr)(u:Int):Int:=(ts.getD u.toNat default).parent
def climb(ts:Tr)(p:Int):Nat→Int→Int
 |0,u=>u
 |f+1,u=>if u<0 then u else if u=p then u else climb ts p f (par ts u)
def walkN(ts:Tr):Nat→Option (List St)
 |0=>some (List.replicate ts.length [])
 |i+1=>match walkN ts i with
  |none=>none
  |some last=>
   let n:=ts.getD i default
   if ascP n.props then
    if i=0 then some last else
    let u:=climb ts n.parent i (i-1)
    if u<0 then none else if ltS n.name (last.getD u.toNat []) then none else some (last.set u.toNat n.name)
   else none
def keyN(n:Nod):St×Int:=(n.name,n.parent)
def dupT(ts:Tr):Bool:=(List.range ts.length).any (fun i=>decide (0<i)&&((ts.take i).map keyN).contains (keyN (ts.getD i default)))
def depN(ts:Tr):Nat→Int→Nat
 |0,_=>0
 |f+1,u=>if 0<u then depN ts f (par ts u)+1 else 0
def bigN(n:Nod):Bool:=decide (24<n.props.length)||n.props.any (fun p=>decide (256<p.val.length))
def chkT(ts:Tr):Int:=
 if ts.length=0∨120<ts.length then 3 else
 if ts.any bigN then 3 else
 if namedT ts=false then 1 else
 if(walkN ts ts.length).isNone then 12 else
 if dupT ts then 5 else
 if(List.range ts.length).any (fun i=>decide (8<depN ts i (i:Int))) then 2 else 0
end Go.Proofs.YtdjhnfopdlgliaaGreat
/-! The operations of one region of a function,found by its number. -/
namespace Go.Proofs.YtdjhnfopdlgliaaGreat
open Go.RowKit
def regOps(id:Nat):Code→Option (Array Oper)
 | .region i ops _=>bif Nat.beq i id then some ops else none
 | .seq a b=>match regOps id a with|some o=>some o|none=>regOps id b
 | .cond _ a b=>match regOps id a with|some o=>some o|none=>regOps id b
 | .block _ c=>regOps id c
 | .loop c=>regOps id c
 | .scope c=>regOps id c
 | .rangeFunc _ _ a b=>match regOps id a with|some o=>some o|none=>regOps id b
 |_=>none
def regIn(id:Nat)(f:Func):Array Oper:=((f.body.bind (regOps id))).getD #[]
theorem wp_code_eq{P:Program}{c c':Code}{Q:Exit→Act→World→Prop}{a:Act}{w:World}(h:c=c')(hw:c.wp P Q a w):c'.wp P Q a w:=h▸hw
end Go.Proofs.YtdjhnfopdlgliaaGreat
/-! A region that draws its order,by an invariant that every ready operation keeps. -/
namespace Go.Proofs.YtdjhnfopdlgliaaGreat
open Go.RowKit
section
variable {P:Program} {ops:Array Oper} {md:Region.Mode}
def undone(done:Array Bool):Nat:=done.toList.count false
theorem undone_set{done:Array Bool}{i:Nat}(h:done.getD i true=false):undone (done.setIfInBounds i true)+1=undone done:=by
 have hi:i<done.size:=by
  rcases Nat.lt_or_ge i done.size with q|q
  ·exact q
  ·simp[Array.getD,Nat.not_lt.2 q] at h
 have hd:done[i]=false:=by simpa [Array.getD,hi] using h
 unfold undone
 rw[Array.toList_setIfInBounds,List.count_set (by simpa using hi)]
 have h1:done.toList[i]'(by simpa using hi)=false:=by simpa using hd
 have h2:0<done.toList.count false:=List.count_pos_iff.2 (by rw[←h1];exact List.getElem_mem _)
 simp only[h1]
 rw[if_pos (by decide),if_neg (by decide)]
 omega
theorem any_of_inv{Q:Exit→Act→World→Prop}{Inv:Array Bool→Act→World→Prop}(hend:∀done a w,Region.ready md ops done= []→Inv done a w→Q .normal a w)
  (step:∀done a w i,i∈Region.ready md ops done→Inv done a w→wpOp P ops Q i (fun a' w'=>Inv (done.setIfInBounds i true) a' w') a w) (fuel:Nat):
  ∀done a w,undone done≤fuel→Inv done a w→wpAny P md ops Q fuel done a w:=by
 induction fuel with
 |zero=>
  intro done a w hu h
  have hr:Region.ready md ops done= []:=by
   rcases hq:Region.ready md ops done with _|⟨i,t⟩
   ·rfl
   ·have hi:i∈Region.ready md ops done:=by rw[hq];simp
    have:=undone_set (mem_ready.1 hi).1
    omega
  exact⟨hr,hend _ _ _ hr h⟩
 |succ fuel ih=>
  intro done a w hu h
  refine⟨fun hr=>hend _ _ _ hr h,fun i hi=>?_⟩
  have hc:=undone_set (mem_ready.1 hi).1
  exact wpOp_mono (fun a' w' h'=>ih _ a' w' (by omega) h') (step done a w i hi h)
theorem wp_region_inv{id:Nat}{Q:Exit→Act→World→Prop}{a:Act}{w:World}(Inv:Array Bool→Act→World→Prop)(hm:P.follows .mixedOrders=true)(h0:Inv (Array.replicate ops.size false) a w.drew)
  (step:∀done a w i,i∈Region.ready .any ops done→Inv done a w→wpOp P ops Q i (fun a' w'=>Inv (done.setIfInBounds i true) a' w') a w)
  (hend:∀done a w,Region.ready .any ops done= []→Inv done a w→Q .normal a w):(Code.region id ops true).wp P Q a w:=
 wp_region_any hm (any_of_inv hend step ops.size _ _ _ (by simp[undone]) h0)
end
section
variable {P:Program}
def depIdx(o:Oper):List Nat:=(o.after.toList.filter (Region.binds .any)).map (·.on)
def Deps(done:Array Bool)(o:Oper):Prop:=∀j,(depIdx o).contains j=true→done.getD j false=true
theorem deps_of{done:Array Bool}{o:Oper}(h:∀e∈o.after,Region.binds .any e=true→done.getD e.on false=true):Deps done o:=by
 intro j hj
 simp only[depIdx,List.contains_iff_mem,List.mem_map,List.mem_filter,Array.mem_toList_iff] at hj
 obtain⟨e,⟨h1,h2⟩,rfl⟩:=hj
 exact h e h1 h2
def StepsI(P:Program)(ops:Array Oper)(Q:Exit→Act→World→Prop)(Inv:Array Bool→Act→World→Prop):List Oper→Nat→Prop
 | [],_=>True
 |o::l,i=>(∀done a w,done.size=ops.size→done.getD i true=false→Deps done o→Inv done a w→∀K:Act→World→Prop,(∀a' w',Inv (done.setIfInBounds i true) a' w'→K a' w')→if Region.wanted o (yielded ops a.tmps)=true then Oper.wp P o a w K Q else K (a.put o.dst undef) w)∧StepsI P ops Q Inv l (i+1)
theorem StepsI.at{ops:Array Oper}{Q:Exit→Act→World→Prop}{Inv:Array Bool→Act→World→Prop}:∀(l:List Oper) (k:Nat),StepsI P ops Q Inv l k→∀i o,l[i]?=some o→∀done a w,done.size=ops.size→done.getD (k+i) true=false→Deps done o→Inv done a w→∀K:Act→World→Prop,(∀a' w',Inv (done.setIfInBounds (k+i) true) a' w'→K a' w')→if Region.wanted o (yielded ops a.tmps)=true then Oper.wp P o a w K Q else K (a.put o.dst undef) w
 | [],_,_,i,o,h=>by simp at h
 |o'::l,k,⟨h0,hs⟩,i,o,h=>by
  cases i with
  |zero=>simp at h;subst h;exact h0
  |succ i=>
   have:=StepsI.at l (k+1) hs i o (by simpa using h)
   rw[show k+1+i=k+(i+1) by omega] at this
   exact this
def earlier:List Oper→Nat→Bool
 | [],_=>true
 |o::l,i=>(depIdx o).all (fun j=>Nat.blt j i)&&earlier l (i+1)
theorem earlier_at:∀(l:List Oper) (k:Nat),earlier l k=true→∀i o,l[i]?=some o→∀j∈depIdx o,j<k+i
 | [],_,_,i,o,h=>by simp at h
 |o'::l,k,he,i,o,h=>by
  simp only[earlier,Bool.and_eq_true,List.all_eq_true] at he
  cases i with
  |zero=>
   simp at h;subst h
   intro j hj
   have:=he.1 j hj
   simpa [Nat.blt_eq] using this
  |succ i=>
   intro j hj
   have:=earlier_at l (k+1) he.2 i o (by simpa using h) j hj
   omega
theorem all_done{l:List Oper}{done:Array Bool}(he:earlier l 0=true)(hs:done.size=l.length)(hr:Region.ready .any l.toArray done= []):∀i,i<l.length→done.getD i false=true:=by
 intro i
 induction i using Nat.strongRecOn with
 |ind i ih=>
  intro hi
  have hi':i<done.size:=by omega
  cases hd:done[i] with
  |true=>simp[Array.getD,hi',hd]
  |false=>
   exfalso
   have:i∈Region.ready .any l.toArray done:=by
    refine mem_ready.2 ⟨by simp[Array.getD,hi',hd],l[i],by simp[hi],fun e h1 h2=>?_⟩
    have hm:e.on∈depIdx l[i]:=by
     simp only[depIdx,List.mem_map,List.mem_filter,Array.mem_toList_iff]
     exact⟨e,⟨h1,h2⟩,rfl⟩
    have:=earlier_at l 0 he i l[i] (by simp[hi]) e.on hm
    exact ih e.on (by omega) (by omega)
   rw[hr] at this
   simp at this
theorem wp_region_steps{id:Nat}{l:List Oper}{Q:Exit→Act→World→Prop}{a:Act}{w:World}(Inv:Array Bool→Act→World→Prop)(hm:P.follows .mixedOrders=true)(he:earlier l 0=true)(h0:Inv (Array.replicate l.length false) a w.drew)
  (step:StepsI P l.toArray Q Inv l 0) (hend:∀done a w,(∀i,i<l.length→done.getD i false=true)→Inv done a w→Q .normal a w):(Code.region id l.toArray true).wp P Q a w:=by
 refine wp_region_inv (fun done a w=>done.size=l.length∧Inv done a w) hm ⟨by simp,by simpa using h0⟩ (fun done a w i hi ⟨hs,h⟩=>?_) (fun done a w hr ⟨hs,h⟩=>hend done a w (all_done he hs hr) h)
 obtain⟨h1,o,h2,h3⟩:=mem_ready.1 hi
 refine wpOp_step h2 fun K hK=>?_
 have:=StepsI.at l 0 step i o (by simpa using h2) done a w (by simpa using hs) (by simpa using h1) (deps_of h3) h K (fun a' w' q=>hK a' w' ⟨by simpa using hs,by simpa using q⟩)
 exact this
theorem getD_set_same{done:Array Bool}{i:Nat}(h:i<done.size):(done.setIfInBounds i true).getD i false=true:=by simp[Array.getD,h]
theorem done_old{done:Array Bool}{i j:Nat}(hj:(done.setIfInBounds i true).getD j false=true)(h:i≠j):done.getD j false=true:=by
 rw[getD_set_ne false h] at hj;exact hj
theorem kp{done:Array Bool}{i j:Nat}{P:Prop}(f:done.getD j false=true→P)(h:i≠j:=by decide):(done.setIfInBounds i true).getD j false=true→P:=fun q=>f (done_old q h)
end
end Go.Proofs.YtdjhnfopdlgliaaGreat
/-! A tape is made of the numbers that came in. -/
namespace Go.Proofs.YtdjhnfopdlgliaaGreat
open Go.RowKit
def RowIn(w:World)(a:Option Addr)(len cap:Nat)(zs:List Int):Prop:=
 (a=none∧len=0∧cap=0∧zs= [])∨
 ∃x,a=some x∧len≤cap∧cap≤maxLen∧zs.length=cap∧(∀i,i<zs.length→w.cell? (x.add i)=some (.int .i64 (zs.getD i 0)))∧∀n∈zs,(Lit.int .i64 n).wf=true
theorem addr_of_cell{w:World}{x:Addr}{v:Value}(h:w.cell? x=some v):x=⟨x.block,x.off,none⟩:=by
 cases x with
 |mk b o s=>
  cases s with
  |none=>rfl
  |some k=>simp only[World.cell?] at h;split at h<;>simp at h
theorem RowIn.ints{w:World}{a:Option Addr}{len cap:Nat}{zs:List Int}(h:RowIn w a len cap zs)(b:Nat)(hb:w.heap.size≤b)(n:Nat)(hn:n≤len):IntsIn w b a n:=by
 intro k hk
 rcases h with⟨_,h2,_⟩|⟨x,rfl,h1,h2,h3,h4,h5⟩
 ·omega
 ·have c0:=h4 0 (by omega)
  have ck:=h4 k (by omega)
  simp only[Addr.add,if_true] at c0
  have hx:=addr_of_cell c0
  refine⟨x.block,x.off,zs.getD k 0,by rw[←hx],?_,?_,?_⟩
  ·rw[hx] at c0;have:x.block<w.heap.size:=has_of_cell c0;omega
  ·simp only[Addr.add] at ck
   split at ck
   ·rename_i e;subst e;rw[hx] at ck;simpa using ck
   ·exact ck
  ·have hmem:zs.getD k 0∈zs:=by
    rw[List.getD_eq_getElem?_getD,List.getElem?_eq_getElem (by omega)];simp
   have:=h5 _ hmem
   have:=bounds_i64 this
   omega
def NewTape(w:World)(len:Nat)(e:Ending)(w':World):Prop:=
 ∃b n,e= .returned (.pointer (some ⟨b,0,none⟩))∧Tape w' b 0 n∧Gr w w'∧w.heap.size≤b∧n≤len
theorem newTape_any(w:World)(a:Option Addr)(len cap:Nat)(zs:List Int)(h:RowIn w a len cap zs):
  Calls Tryz.prog 11 #[.slice a len cap] w (NewTape w len):=by
 have hi:=h.ints
 have H:=Lib.hid h
 rcases h with⟨rfl,rfl,rfl,rfl⟩|⟨x,rfl,h1,h2,h3,_,_⟩
 ·clear hi
  go_enter Tryz.func11,Tryz.ntmps11
  go_wp2
  go_ret
  refine⟨w.heap.size,0,rfl,⟨none,0,by simp[go_sem],by simp[go_sem],by simp[go_sem],by omega,by omega,by omega,fun k hk=>by omega⟩,(Gr.refl w).alloc _,Nat.le_refl _,by omega⟩
 ·unfold maxLen at h2
  have HI:=Lib.hid hi
  clear hi h3
  by_cases hl:len≤500
  ·go_enter Tryz.func11,Tryz.ntmps11
   go_wp2
   go_ret
   refine⟨w.heap.size,len,rfl,⟨some x,cap,by simp[go_sem],by simp[go_sem],by simp[go_sem],by omega,by omega,by omega,?_⟩,(Gr.refl w).alloc _,Nat.le_refl _,by omega⟩
   exact(HI.out w.heap.size (Nat.le_refl _) len (Nat.le_refl _)).gr ((Gr.refl w).alloc _)
  ·go_enter Tryz.func11,Tryz.ntmps11
   go_wp2
   go_ret
   refine⟨w.heap.size,500,rfl,⟨some x,cap,by simp[go_sem],by simp[go_sem],by simp[go_sem],by omega,by omega,by omega,?_⟩,(Gr.refl w).alloc _,Nat.le_refl _,by omega⟩
   exact(HI.out w.heap.size (Nat.le_refl _) 500 (by omega)).gr ((Gr.refl w).alloc _)
end Go.Proofs.YtdjhnfopdlgliaaGreat
/-! Worlds in which a tape has moved on and memory has grown (for the laws on rates). -/
namespace Go.Proofs.YtdjhnfopdlgliaaGreat
open Go.RowKit
open Classical
def Tp(w:World)(b len:Nat):Prop:=∃p,Tape w b p len
def Mv(b len:Nat)(w w':World):Prop:=∃p:Int,0≤p∧p≤(len:Int)∧Gr (w.setCell ⟨b,1,none⟩ (.int .i64 p)) w'
theorem size_set(w:World)(a:Addr)(v:Value):(w.setCell a v).heap.size=w.heap.size:=by simp[World.setCell]
theorem Tp.has{w:World}{b len:Nat}(h:Tp w b len):b<w.heap.size:=h.elim fun _ h=>h.has
theorem Mv.tp{w w':World}{b len:Nat}(h:Mv b len w w')(ht:Tp w b len):Tp w' b len:=by
 obtain⟨p,h0,h1,hg⟩:=h
 obtain⟨q,ht⟩:=ht
 exact⟨p,(ht.set h0 h1).gr hg⟩
theorem Tp.gr{w w':World}{b len:Nat}(h:Tp w b len)(hg:Gr w w'):Tp w' b len:=h.elim fun p h=>⟨p,h.gr hg⟩
theorem Mv.of_gr{w w':World}{b len:Nat}(ht:Tp w b len)(hg:Gr w w'):Mv b len w w':=by
 obtain⟨p,ht⟩:=ht
 obtain⟨ao,cap,c0,c1,c2,c3,c4,c5,c6⟩:=ht
 exact⟨p,c3,c4,by rw[setCell_id c1];exact hg⟩
theorem Mv.refl{w:World}{b len:Nat}(ht:Tp w b len):Mv b len w w:= .of_gr ht (Gr.refl w)
theorem gr_setCell{w w':World}{b:Nat}(hg:Gr w w')(hb:b<w.heap.size)(v:Value):Gr (w.setCell ⟨b,1,none⟩ v) (w'.setCell ⟨b,1,none⟩ v):=by
 have h:=hg.below
 refine .of_below ⟨h.os,h.tape,h.output,by rw[size_set,size_set];exact h.size,fun k hk=>?_⟩
 rw[size_set] at hk
 have:=h.block k hk
 simp only[World.setCell,Array.getElem?_modify,this]
theorem Mv.trans{w w1 w2:World}{b len:Nat}(h:Mv b len w w1)(hb:b<w.heap.size)(k:Mv b len w1 w2):Mv b len w w2:=by
 obtain⟨p,h0,h1,hg⟩:=h
 obtain⟨q,k0,k1,kg⟩:=k
 refine⟨q,k0,k1,?_⟩
 have:=gr_setCell hg (by rw[size_set];exact hb) (.int .i64 q)
 rw[setCell_setCell] at this
 exact this.trans kg
theorem Mv.gr{w w1 w2:World}{b len:Nat}(h:Mv b len w w1)(k:Gr w1 w2):Mv b len w w2:=by
 obtain⟨p,h0,h1,hg⟩:=h
 exact⟨p,h0,h1,hg.trans k⟩
theorem Mv.alloc{w w1:World}{b len:Nat}(o:Obj)(h:Mv b len w w1):Mv b len w (w1.alloc o):=h.gr ((Gr.refl _).alloc o)
theorem Mv.setc{w w1:World}{b len B o:Nat}{v:Value}(h:Mv b len w w1)(hB:w.heap.size≤B):Mv b len w (w1.setCell ⟨B,o,none⟩ v):=by
 obtain⟨p,h0,h1,hg⟩:=h
 exact⟨p,h0,h1,hg.setCell (a:=⟨B,o,none⟩) (by rw[size_set];exact hB) v⟩
theorem Mv.size{w w1:World}{b len:Nat}(h:Mv b len w w1):w.heap.size≤w1.heap.size:=by
 obtain⟨p,h0,h1,hg⟩:=h
 have:=hg.size;rwa [size_set] at this
theorem Mv.block{w w1:World}{b len k:Nat}(h:Mv b len w w1)(hk:k<w.heap.size)(hb:k≠b):w1.heap[k]?=w.heap[k]?:=by
 obtain⟨p,h0,h1,hg⟩:=h
 rw[hg.below.block k (by rw[size_set];exact hk)]
 simp[World.setCell,Array.getElem?_modify,Ne.symm hb]
theorem Mv.cell{w w1:World}{b len k o:Nat}{s:Option Nat}{v:Value}(h:Mv b len w w1)(hb:k≠b)(c:w.cell? ⟨k,o,s⟩=some v):w1.cell? ⟨k,o,s⟩=some v:=
 (World.cell?_of_block (w:=w) (h.block (has_of_cell c) hb)).trans c
theorem Mv.row{w w1:World}{b len B T:Nat}{vs:List Value}(h:Mv b len w w1)(r:Row w B T vs)(hb:B≠b):Row w1 B T vs:=(h.block r.has hb).trans r
def ReadsM(b len:Nat)(w:World)(S:Int→Prop)(e:Ending)(w':World):Prop:=∃x,e= .returned (.int .i64 x)∧S x∧Mv b len w w'
theorem Reads.m{b len:Nat}{w:World}{S:Int→Prop}{e:Ending}{w':World}(h:Reads w b len S e w'):ReadsM b len w S e w':=by
 obtain⟨x,p,e,hs,h0,h1,hg⟩:=h
 exact⟨x,e,hs,p,h0,h1,hg⟩
theorem nM_any(w:World)(b len:Nat)(n:Int)(h:Tp w b len)(hn:1≤n)(hn1:n≤9223372036854775807):
  Calls Tryz.prog 45 #[.pointer (some ⟨b,0,none⟩),.int .i64 n] w (ReadsM b len w (InTo 0 (n-1))):=
 h.elim fun p h=>(n_any w b len p n h hn hn1).mono fun _ _ q=>q.m
theorem rangeM_any(w:World)(b len:Nat)(lo hi:Int)(h:Tp w b len)(hl: -1000≤lo)(hh:lo≤hi)(hh1:hi≤1000000):
  Calls Tryz.prog 25 #[.pointer (some ⟨b,0,none⟩),.int .i64 lo,.int .i64 hi] w (ReadsM b len w (InTo lo hi)):=by
 have H:=Lib.hid h
 clear h
 go_enter Tryz.func25,Tryz.ntmps25
 go_wp2_with fail
 refine(nM_any _ b len _ H.out (by omega) (by omega)).mono ?_
 rintro e w' ⟨x,rfl,hx,hm⟩
 have hx0:=hx.1
 have hx1:=hx.2
 have M:=Lib.hid hm
 clear hm hx
 go_wp2_with fail
 go_ret
 exact⟨lo+x,rfl,⟨by omega,by omega⟩,M.out⟩
theorem Mv.out{w W w':World}{b len:Nat}(hg:Gr w W)(h:Mv b len W w')(hb:w.heap.size≤b):Gr w w':=by
 obtain⟨p,h0,h1,g⟩:=h
 exact(hg.setc hb).trans g
end Go.Proofs.YtdjhnfopdlgliaaGreat
/-! Rows of cells of the call's own,with spare room,beside a tape that moves;what is appended and where it lies. Out of XRow,XMk,XMkA,XRox (wip/tools/own.py). -/
namespace Go.Proofs.YtdjhnfopdlgliaaGreat
open Go.RowKit
def bools(vs:List Bool):List Value:=vs.map Value.bool
def nums(vs:List Int):List Value:=vs.map (Value.int .i64)
theorem nums_len(vs:List Int):(nums vs).length=vs.length:=by simp[nums]
theorem bools_set(vs:List Bool)(k:Nat)(b:Bool):(bools vs).set k (.bool b)=bools (vs.set k b):=by simp[bools,List.map_set]
theorem nums_set(vs:List Int)(k:Nat)(b:Int):(nums vs).set k (.int .i64 b)=nums (vs.set k b):=by simp[nums,List.map_set]
theorem Row.bat{w:World}{B T:Nat}{vs:List Bool}(h:Row w B T (bools vs))(k:Nat)(hk:k<vs.length):w.cell? ⟨B,k,none⟩=some (.bool vs[k]):=by
 rw[h.cell k (by simpa [bools] using hk)];simp[bools]
theorem Row.iat{w:World}{B T:Nat}{vs:List Int}(h:Row w B T (nums vs))(k:Nat)(hk:k<vs.length):w.cell? ⟨B,k,none⟩=some (.int .i64 vs[k]):=by
 rw[h.cell k (by simpa [nums] using hk)];simp[nums]
theorem Row.bset{w:World}{B T:Nat}{vs:List Bool}(h:Row w B T (bools vs))(k:Nat)(b:Bool):Row (w.setCell ⟨B,k,none⟩ (.bool b)) B T (bools (vs.set k b)):=by
 rw[←bools_set];exact h.set k _
theorem Row.iset{w:World}{B T:Nat}{vs:List Int}(h:Row w B T (nums vs))(k:Nat)(b:Int):Row (w.setCell ⟨B,k,none⟩ (.int .i64 b)) B T (nums (vs.set k b)):=by
 rw[←nums_set];exact h.set k _
def RowS(w:World)(B T:Nat)(vs:List Value):Prop:=∃rest,Row w B T (vs++rest)
theorem Row.s{w:World}{B T:Nat}{vs:List Value}(h:Row w B T vs):RowS w B T vs:=⟨[],by simpa using h⟩
theorem RowS.cell{w:World}{B T:Nat}{vs:List Value}(h:RowS w B T vs)(k:Nat)(hk:k<vs.length):w.cell? ⟨B,k,none⟩=some vs[k]:=by
 obtain⟨rest,h⟩:=h
 rw[h.cell k (by simp;omega),List.getElem_append_left hk]
theorem RowS.free{w:World}{B T:Nat}{vs:List Value}(h:RowS w B T vs)(k:Nat):w.frozen? ⟨B,k,none⟩=false:=h.elim fun _ h=>h.free k
theorem RowS.iat{w:World}{B T:Nat}{vs:List Int}(h:RowS w B T (nums vs))(k:Nat)(hk:k<vs.length):w.cell? ⟨B,k,none⟩=some (.int .i64 vs[k]):=by
 rw[h.cell k (by simpa [nums] using hk)];simp[nums]
theorem RowS.slI{w:World}{B T:Nat}{vs:List Int}(h:RowS w B T (nums vs))(hw:∀k (hk:k<vs.length),Wide vs[k]):SlOf 1 RI w (some ⟨B,0,none⟩) vs:=fun k hk=>⟨B,0,rfl,by rw[Nat.mul_one,Nat.zero_add];exact⟨h.iat k hk,hw k hk⟩⟩
theorem nums_one(vs:List Int):∀u∈nums vs,u.oneCell'=true:=by
 intro u hu
 obtain⟨x,_,rfl⟩:=List.mem_map.1 hu
 rfl
def Own1(base:Nat)(w:World)(T:Nat)(vs:List Value)(a:Option Addr):Prop:=vs= []∨∃B,a=some ⟨B,0,none⟩∧base≤B∧RowS w B T vs
theorem Gr.grown{w W w':World}{row:Option Nat}(h:Gr w W)(hg:W.grownBy w' row)(hrow:∀k,row=some k→w.heap.size≤k):Gr w w':=by
 have hb:=h.below
 refine .of_below ⟨hg.os.trans hb.os,hg.tape.trans hb.tape,hg.output.trans hb.output,Nat.le_trans hb.size hg.size,fun k hk=>?_⟩
 rw[hg.block k (Nat.lt_of_lt_of_le hk hb.size) (fun e=>by have:=hrow k e.symm;omega)]
 exact hb.block k hk
theorem grownBy_set(w:World)(B o:Nat)(v:Value):w.grownBy (w.setCell ⟨B,o,none⟩ v) (some B):=
 ⟨rfl,rfl,rfl,by simp[World.setCell],fun k _ hk=>by simp only[World.setCell];rw[Array.getElem?_modify,if_neg (fun e=>hk (by rw[e]))]⟩
theorem flat_at{α:Type}(f:α→List Value)(n:Nat)(hf:∀x,(f x).length=n)(ts:List α)(k j:Nat)(hk:k<ts.length)(hj:j<n):(ts.flatMap f)[k*n+j]?=(f ts[k])[j]?:=by
 induction ts generalizing k with
 |nil=>simp at hk
 |cons x ts ih=>
  rw[List.flatMap_cons]
  cases k with
  |zero=>rw[List.getElem?_append_left (by rw[hf];omega)];simp
  |succ k=>
   rw[List.getElem?_append_right (by rw[hf,Nat.add_mul];omega),hf,show(k+1)*n+j-n=k*n+j by rw[Nat.add_mul];omega,ih k (by simpa using hk)]
   simp
theorem flat_len{α:Type}(f:α→List Value)(n:Nat)(hf:∀x,(f x).length=n)(ts:List α):(ts.flatMap f).length=ts.length*n:=by
 induction ts with
 |nil=>simp
 |cons x ts ih=>rw[List.flatMap_cons,List.length_append,hf,ih,List.length_cons,Nat.add_mul];omega
theorem owns_cell{w:World}{base e size n:Nat}{v:Value}{xs:List Value}(h:w.ownsRow base e size v n xs)(hn:0<n):∃g cap,v= .slice (some ⟨g,0,none⟩) n cap∧n≤cap∧base≤g∧∀j,j<n*size→w.cell? ⟨g,j,none⟩=xs[j]?:=by
 obtain⟨h0,⟨rfl,h1⟩|⟨g,cap,cur,rfl,hb,hg,hn',_,hs,ht⟩⟩:=h
 ·omega
 ·refine⟨g,cap,rfl,hn',hb,fun j hj=>?_⟩
  rw[←ht,List.getElem?_take,if_pos hj]
  simp[World.cell?,hg]
theorem owns_slice{w:World}{base e size n:Nat}{v:Value}{xs:List Value}(h:w.ownsRow base e size v n xs):∃a c,v= .slice a n c:=by
 rcases h.2 with⟨rfl,rfl⟩|⟨g,cap,cur,rfl,_⟩
 ·exact⟨none,0,rfl⟩
 ·exact⟨_,cap,rfl⟩
theorem Gr.owns{w w1:World}{base e size n:Nat}{v:Value}{xs:List Value}(r:w.ownsRow base e size v n xs)(hg:Gr w w1):w1.ownsRow base e size v n xs:=by
 refine⟨r.1,?_⟩
 rcases r.2 with r|⟨g,cap,cur,e,h1,h2,h3⟩
 ·exact .inl r
 ·exact .inr ⟨g,cap,cur,e,h1,(hg.below.block g (Array.getElem?_eq_some_iff.1 h2).1).trans h2,h3⟩
section
open Classical
theorem Mv.owns{w w1:World}{b len base e size n:Nat}{v:Value}{xs:List Value}(h:Mv b len w w1)(r:w.ownsRow base e size v n xs)(hb:b<base):w1.ownsRow base e size v n xs:=by
 refine⟨r.1,?_⟩
 rcases r.2 with r|⟨g,cap,cur,e,h1,h2,h3⟩
 ·exact .inl r
 ·exact .inr ⟨g,cap,cur,e,h1,(h.block (Array.getElem?_eq_some_iff.1 h2).1 (by omega)).trans h2,h3⟩
def Hold(b:Nat)(w:World)(Q:World→Prop):Prop:=∀p:Int,Q (w.setCell ⟨b,1,none⟩ (.int .i64 p))
def GrMono(Q:World→Prop):Prop:=∀w w',Gr w w'→Q w→Q w'
theorem pickM_any(w:World)(b len:Nat)(h:Tp w b len)(eb n:Nat)(S:Int→Prop)(hn:1≤n)(hn1:n≤1000)(hne:eb≠b)(hel:∀k,k<n→∃x,w.cell? ⟨eb,k,none⟩=some (.int .i64 x)∧S x):
  Calls Tryz.prog 47 #[.pointer (some ⟨b,0,none⟩),.slice (some ⟨eb,0,none⟩) n n] w (ReadsM b len w S):=
 h.elim fun p h=>(pick_any w b len p h eb n S hn hn1 hne hel).mono fun _ _ q=>q.m
theorem Mv.grown{w W w1:World}{b len:Nat}{row:Option Nat}(h:Mv b len w W)(hg:W.grownBy w1 row)(hrow:∀k,row=some k→w.heap.size≤k):Mv b len w w1:=by
 obtain⟨p,h0,h1,g⟩:=h
 exact⟨p,h0,h1,g.grown hg (fun k e=>by rw[size_set];exact hrow k e)⟩
theorem pickNew_any(w:World)(b len:Nat)(h:Tp w b len)(eb:Nat)(heb:eb=w.heap.size)(arr:Array Value)(n:Nat)(xs:List Int)(S:Int→Prop)(ha:arr.toList=nums xs)(hn:xs.length=n)(hn1:1≤n)(hn2:n≤1000)(hS:∀x∈xs,S x):
  Calls Tryz.prog 47 #[.pointer (some ⟨b,0,none⟩),.slice (some ⟨eb,0,none⟩) n n] (w.alloc (.cells arr 3)) (ReadsM b len w S):=by
 subst heb
 refine(pickM_any (w.alloc (.cells arr 3)) b len (h.gr ((Gr.refl _).alloc _)) w.heap.size n S hn1 hn2 (by have:=h.has;omega) (fun k hk=>?_)).mono ?_
 ·have q:=Row.new w arr 3
  rw[ha] at q
  exact⟨_,q.iat k (by omega),hS _ (List.getElem_mem _)⟩
 ·rintro e w' ⟨x,rfl,hs,hm⟩
  exact⟨x,rfl,hs,(Mv.of_gr h ((Gr.refl _).alloc _)).trans h.has hm⟩
end
def Gets(w:World)(A:Option Addr)(m size:Nat)(news:List Value):Prop:=news.length=m*size∧(m≠0→∃ad,A=some ad∧∀j u,news[j]?=some u→w.cell? (ad.add j)=some u)
section
variable {P:Program} (w:World)
theorem grownBy_same(row:Option Nat):w.grownBy w row:=World.grownBy.refl w row
theorem run_append_gets(base:Nat)(t ty e:TypeId)(i:TypeInfo)(z:Value)(size bytes:Nat)(ht:P.underlying t=some (.slice e))(hi:P.info? e=some i)(hz:i.zero=some z)(hs:i.size=size)(hb:i.bytes=bytes)(hzs:z.cells.size=size)(h0:0<size)
  (v:Value) (n:Nat) (xs:List Value) (hown:w.ownsRow base e size v n xs) (A:Option Addr) (m c:Nat) (news:List Value) (hg:Gets w A m size news) (h1:∀u∈news,u.oneCell'=true) (h63:n+m≤maxLen) (hbytes:(n+m)*bytes≤140737488355328) (hbase:base≤w.heap.size):
  ∃v' w',(Builtin.append_ #[t,t] ty #[v,.slice A m c]).run P w= .ok v' w'∧w'.ownsRow base e size v' (n+m) (xs++news)∧w.grownBy w' v.ownBlock∧(v'.ownBlock=v.ownBlock∨v'.ownBlock=some w.heap.size):=by
 cases A with
 |some ad=>
  have hc:∀j u,news[j]?=some u→w.cell? (ad.add j)=some u:=by
   by_cases hm:m=0
   ·subst hm
    have:news= []:=List.eq_nil_of_length_eq_zero (by have:=hg.1;omega)
    subst this
    intro j u hu;simp at hu
   ·obtain⟨_,e,q⟩:=hg.2 hm
    cases e
    exact q
  obtain⟨v',w',q1,q2,q3,_,q5⟩:=run_append_own_at (P:=P) w base t ty e i z size bytes ht hi hz hs hb hzs h0 v n xs hown ad m c news hg.1 hc h1 h63 hbytes hbase
  exact⟨v',w',q1,q2,q3,q5⟩
 |none=>
  have hm:m=0:=Classical.byContradiction fun q=>by obtain⟨_,e,_⟩:=hg.2 q;cases e
  subst hm
  have:news= []:=List.eq_nil_of_length_eq_zero (by have:=hg.1;omega)
  subst this
  refine⟨v,w,?_,by simpa using hown,grownBy_same w _,.inl rfl⟩
  obtain⟨_,⟨rfl,rfl⟩|⟨g,cap,cur,rfl,_,_,hnc,_⟩⟩:=hown
  ·simp[Builtin.append_,run_underlying ht,sizeOf,typeInfo,hi,Builtin.lenOf,Builtin.firstCells]
  ·simp[Builtin.append_,run_underlying ht,sizeOf,typeInfo,hi,Builtin.lenOf,Builtin.firstCells,hnc,storeCells]
theorem wp_append_gets{o:Oper}{a:Act}{K:Act→World→Prop}{Q:Exit→Act→World→Prop}(s x:Operand)(t:TypeId)
  (ho:o.op= .call {callee:= .builtin .append,args:= #[s,x],argTypes:= #[t,t]}) (base:Nat) (e:TypeId) (i:TypeInfo) (z:Value) (size bytes:Nat) (ht:P.underlying t=some (.slice e)) (hi:P.info? e=some i) (hz:i.zero=some z) (hs:i.size=size) (hb:i.bytes=bytes) (hzs:z.cells.size=size) (h0:0<size)
  (v:Value) (n:Nat) (xs:List Value) (hv:a.eval s=v) (hown:w.ownsRow base e size v n xs) (A:Option Addr) (m c:Nat) (news:List Value) (hx:a.eval x= .slice A m c) (hg:Gets w A m size news) (h1:∀u∈news,u.oneCell'=true) (h63:n+m≤maxLen) (hbytes:(n+m)*bytes≤140737488355328) (hbase:base≤w.heap.size)
  (h:∀v' w',w'.ownsRow base e size v' (n+m) (xs++news)→w.grownBy w' v.ownBlock→(v'.ownBlock=v.ownBlock∨v'.ownBlock=some w.heap.size)→K (a.put o.dst v') w'):o.wp P a w K Q:=by
 obtain⟨v',w',q1,q2,q3,q4⟩:=run_append_gets (P:=P) w base t o.type e i z size bytes ht hi hz hs hb hzs h0 v n xs hown A m c news hg h1 h63 hbytes hbase
 unfold Oper.wp execOp
 simp only[ho,resolve,invoke,builtin,Sem.run_bind,Sem.run_pure,Result.andThen_ok,List.map_toArray,List.map_cons,List.map_nil,hv,hx,q1]
 exact h v' w' q2 q3 q4
theorem wpList_append_gets{ops:Array Oper}{rest:List Oper}{o:Oper}{a:Act}{Q:Exit→Act→World→Prop}(hgd:o.guard=none)(s x:Operand)(t:TypeId)
  (ho:o.op= .call {callee:= .builtin .append,args:= #[s,x],argTypes:= #[t,t]}) (base:Nat) (e:TypeId) (i:TypeInfo) (z:Value) (size bytes:Nat) (ht:P.underlying t=some (.slice e)) (hi:P.info? e=some i) (hz:i.zero=some z) (hs:i.size=size) (hb:i.bytes=bytes) (hzs:z.cells.size=size) (h0:0<size)
  (v:Value) (n:Nat) (xs:List Value) (hv:a.eval s=v) (hown:w.ownsRow base e size v n xs) (A:Option Addr) (m c:Nat) (news:List Value) (hx:a.eval x= .slice A m c) (hg:Gets w A m size news) (h1:∀u∈news,u.oneCell'=true) (h63:n+m≤maxLen) (hbytes:(n+m)*bytes≤140737488355328) (hbase:base≤w.heap.size)
  (h:∀v' w',w'.ownsRow base e size v' (n+m) (xs++news)→w.grownBy w' v.ownBlock→(v'.ownBlock=v.ownBlock∨v'.ownBlock=some w.heap.size)→wpList P ops Q rest (a.put o.dst v') w'):wpList P ops Q (o::rest) a w:=
 wpList_plain hgd fun _ hK=>wp_append_gets w s x t ho base e i z size bytes ht hi hz hs hb hzs h0 v n xs hv hown A m c news hx hg h1 h63 hbytes hbase fun v' w' q1 q2 q3=>hK _ _ (h v' w' q1 q2 q3)
theorem step_append_gets{ops:Array Oper}{o:Oper}{a:Act}{K:Act→World→Prop}{Q:Exit→Act→World→Prop}{E:Prop}(hgd:o.guard=none)(s x:Operand)(t:TypeId)
  (ho:o.op= .call {callee:= .builtin .append,args:= #[s,x],argTypes:= #[t,t]}) (base:Nat) (e:TypeId) (i:TypeInfo) (z:Value) (size bytes:Nat) (ht:P.underlying t=some (.slice e)) (hi:P.info? e=some i) (hz:i.zero=some z) (hs:i.size=size) (hb:i.bytes=bytes) (hzs:z.cells.size=size) (h0:0<size)
  (v:Value) (n:Nat) (xs:List Value) (hv:a.eval s=v) (hown:w.ownsRow base e size v n xs) (A:Option Addr) (m c:Nat) (news:List Value) (hx:a.eval x= .slice A m c) (hg:Gets w A m size news) (h1:∀u∈news,u.oneCell'=true) (h63:n+m≤maxLen) (hbytes:(n+m)*bytes≤140737488355328) (hbase:base≤w.heap.size)
  (h:∀v' w',w'.ownsRow base e size v' (n+m) (xs++news)→w.grownBy w' v.ownBlock→(v'.ownBlock=v.ownBlock∨v'.ownBlock=some w.heap.size)→K (a.put o.dst v') w'):
  if Region.wanted o (yielded ops a.tmps)=true then Oper.wp P o a w K Q else E:=by
 rw[if_pos (by simp[Region.wanted,hgd])]
 exact wp_append_gets w s x t ho base e i z size bytes ht hi hz hs hb hzs h0 v n xs hv hown A m c news hx hg h1 h63 hbytes hbase h
end
theorem owns_low{w:World}{base base' e size n:Nat}{v:Value}{xs:List Value}(h:w.ownsRow base e size v n xs)(hb:base'≤base):w.ownsRow base' e size v n xs:=by
 refine⟨h.1,?_⟩
 rcases h.2 with q|⟨g,cap,cur,e,h1,h2⟩
 ·exact .inl q
 ·exact .inr ⟨g,cap,cur,e,by omega,h2⟩
theorem owns_block{w:World}{base e size n:Nat}{v:Value}{xs:List Value}(h:w.ownsRow base e size v n xs):∀g,v.ownBlock=some g→base≤g∧g<w.heap.size:=by
 intro g hg
 rcases h.2 with⟨rfl,_⟩|⟨g',cap,cur,rfl,h1,h2,_⟩
 ·cases hg
 ·simp[Value.ownBlock] at hg
  subst hg
  exact⟨h1,(Array.getElem?_eq_some_iff.1 h2).1⟩
end Go.Proofs.YtdjhnfopdlgliaaGreat
/-! The code of one block or region of a function,found by its number (as XAnH,by itself). -/
namespace Go.Proofs.YtdjhnfopdlgliaaGreat
open Go.RowKit
def codeOf(id:Nat):Code→Option Code
 | .block i c=>bif Nat.beq i id then some c else codeOf id c
 | .seq a b=>match codeOf id a with|some o=>some o|none=>codeOf id b
 | .cond _ a b=>match codeOf id a with|some o=>some o|none=>codeOf id b
 | .loop c=>codeOf id c
 | .scope c=>codeOf id c
 | .rangeFunc _ _ a b=>match codeOf id a with|some o=>some o|none=>codeOf id b
 |_=>none
def codeIn(id:Nat)(f:Func):Code:=((f.body.bind (codeOf id))).getD .skip
end Go.Proofs.YtdjhnfopdlgliaaGreat
namespace Go.Proofs.YtdjhnfopdlgliaaGreat
open Go.RowKit
def cell4(n:Nat):St:= [UInt8.ofNat (n/16777216),UInt8.ofNat (n/65536),UInt8.ofNat (n/256),UInt8.ofNat n]
def num4(a b c d:UInt8):Nat:=a.toNat*16777216+b.toNat*65536+c.toNat*256+d.toNat
def cellsL:St→List Int
 |a::b::c::d::r=>((num4 a b c d:Nat):Int)::cellsL r
 |_=> []
def cellsOk(v:St):Bool:=!v.isEmpty&&v.length%4==0
def cellsS(l:List Nat):St:=l.flatMap cell4
theorem cell4_length(n:Nat):(cell4 n).length=4:=rfl
theorem cellsS_length(l:List Nat):(cellsS l).length=4*l.length:=by
 induction l with
 |nil=>rfl
 |cons n l ih=>unfold cellsS at ih ⊢;rw[List.flatMap_cons,List.length_append,ih,cell4_length,List.length_cons];omega
theorem cellsL_length:∀(v:St),(cellsL v).length=v.length/4
 | []=>rfl
 | [_]=>by simp[cellsL]
 | [_,_]=>by simp[cellsL]
 | [_,_,_]=>by simp[cellsL]
 |a::b::c::d::r=>by
  rw[cellsL,List.length_cons,cellsL_length r];simp only[List.length_cons];omega
def valP(ps:List Prp)(name:St):Option St:=(ps.find? (fun p=>p.name==name)).map Prp.val
def phS:St:= [112,104,97,110,100,108,101]
def phan(ts:Tr)(p:Int):Option Nat:=
 if 1≤p∧p≤1048576 then ts.findIdx? (fun n=>n.props.contains ⟨phS,cell4 p.toNat⟩) else none
def argsN(ts:Tr)(prov:Nat)(cn:St):Option Int:=
 match valP (ts.getD prov default).props cn with
 |none=>some 0
 |some v=>if cellsOk v=true∧(cellsL v).length=1∧(cellsL v).getD 0 0≤8 then some ((cellsL v).getD 0 0) else none
structure Lnk where
 node:Int
 prov:Int
 prop:St
 idx:Int
 args:List Int
 deriving DecidableEq
instance:Inhabited Lnk:=⟨⟨0,0,[],0,[]⟩⟩
def ofF(ts:Tr)(node:Int)(pn cn:St):Nat→List Int→List Lnk→Except Int (List Lnk)
 |0,_,out=> .ok out
 |_+1,[],out=> .ok out
 |f+1,p::l,out=>
  match phan ts p with
  |none=> .error 25
  |some k=>
   match argsN ts k cn with
   |none=> .error 26
   |some n=>if(l.length:Int)<n then .error 26 else ofF ts node pn cn f (l.drop n.toNat) (out++ [⟨node,k,pn,out.length,l.take n.toNat⟩])
def ofT(ts:Tr)(node:Nat)(pn cn:St):Except Int (List Lnk):=
 match valP (ts.getD node default).props pn with
 |none=> .ok []
 |some v=>if v= [] then .ok [] else if cellsOk v then ofF ts node pn cn (cellsL v).length (cellsL v) [] else .error 26
end Go.Proofs.YtdjhnfopdlgliaaGreat
