/- Lemmas and contracts for the proof of LinkAnswers (several texts in one, printed by wip/tools/pack.py): TeR TeS TeT TeU TeW. -/
import Derived.Test.YtdjhnfopdlgliaaGreatLa1pm
import Derived.Test.YtdjhnfopdlgliaaGreatLa1pn
import Derived.Deep.LoopGhost
import Derived.WalkMore
import Derived.Test.YtdjhnfopdlgliaaGreatLa1pl
set_option maxRecDepth 100000
set_option maxHeartbeats 16000000
set_option linter.unusedVariables false
set_option linter.unusedSimpArgs false
namespace Go.Proofs.YtdjhnfopdlgliaaGreat
open Go.RowKit
open Classical
def srt(zs:List Int):List Int:=zs.mergeSort (fun x y=>decide (x≤y))
theorem srt_len(zs:List Int):(srt zs).length=zs.length:=List.length_mergeSort _
def SortsI(w:World)(base:Nat)(v:Value)(zs:List Int)(e:Ending)(w':World):Prop:=e= .returned (.tuple #[])∧w'.ownsRow base 3 1 v zs.length (nums (srt zs))∧w.grownBy w' v.ownBlock
theorem put_block{w:World}{g e q:Nat}{cur:Array Value}(hb:w.heap[g]?=some (.cells cur e (0,0)))(d:Array Int)(os:Array Obj):
  (Sort.grow (Sort.putRow (Value.int .i64) (Sort.ahead w q) g 0 d) os).heap[g]?=some (.cells (Sort.putCells (Value.int .i64) 0 d cur) e (0,0)):=by
 have hg:=(Array.getElem?_eq_some_iff.1 hb).1
 simp only[Sort.grow,Sort.putRow,Sort.mapBlock,Sort.ahead]
 rw[Array.getElem?_append_left (by simpa using hg),Array.getElem?_modify,if_pos rfl,hb]
 rfl
theorem put_grown{w:World}{g q:Nat}(d:Array Int)(os:Array Obj):w.grownBy (Sort.grow (Sort.putRow (Value.int .i64) (Sort.ahead w q) g 0 d) os) (some g):=by
 refine⟨rfl,rfl,rfl,?_,fun k hk hne=>?_⟩
 ·simp[Sort.grow,Sort.putRow,Sort.mapBlock,Sort.ahead]
 ·simp only[Sort.grow,Sort.putRow,Sort.mapBlock,Sort.ahead]
  rw[Array.getElem?_append_left (by simpa using hk),Array.getElem?_modify,if_neg (fun e=>hne (by rw[e]))]
theorem put_take{cur:Array Value}{d:Array Int}{m:Nat}(hd:d.size≤cur.size)(hm:m≤d.size):(Sort.putCells (Value.int .i64) 0 d cur).toList.take m=nums (d.toList.take m):=by
 apply List.ext_getElem
 ·simp[Sort.putCells,nums];omega
 ·intro k h1 h2
  have hk:k<m:=by simp[Sort.putCells] at h1;omega
  simp only[Sort.putCells,List.getElem_take,Array.getElem_toList,Array.getElem_mapIdx,nums,List.getElem_map]
  rw[if_pos (by omega),Nat.sub_zero,getElem!_pos d k (by omega)]
theorem put_size(d:Array Int)(cur:Array Value):(Sort.putCells (Value.int .i64) 0 d cur).size=cur.size:=by simp[Sort.putCells]
theorem own_holds{w:World}{g:Nat}{cur:Array Value}{zs:List Int}(hb:w.heap[g]?=some (.cells cur 3 (0,0)))(ht:cur.toList.take (zs.length*1)=nums zs):Sort.Holds (Value.int .i64) w g 0 zs.toArray:=by
 have hr:RowS w g 3 (nums zs):=⟨cur.toList.drop (zs.length*1),by rw[←ht,List.take_append_drop];exact hb⟩
 intro j hj
 have hj':j<zs.length:=by simpa using hj
 refine⟨?_,hr.free _⟩
 rw[Nat.zero_add,hr.iat j hj',getElem!_pos zs.toArray j hj]
 simp
theorem sortI_any(zs:List Int)(v:Value)(base:Nat)(w:World)(h:w.ownsRow base 3 1 v zs.length (nums zs))(h0:zs≠ [])(hf:zs.length≤1000000):
  Calls Tryz.prog 105 #[v] w (SortsI w base v zs):=by
 obtain⟨_,⟨rfl,hn⟩|⟨g,cap,cur,rfl,hb,hg,hnc,hcm,hcs,htk⟩⟩:=h
 ·exact absurd (List.eq_nil_of_length_eq_zero hn) h0
 ·refine(Tryz.slices_Sort_int g 0 cap zs w (own_holds hg htk) (Array.getElem?_eq_some_iff.1 hg).1 (by omega)).mono ?_
  rintro e w' ⟨rfl,q,os,rfl⟩
  refine⟨rfl,⟨by simp[nums,srt_len],.inr ⟨g,cap,_,rfl,hb,put_block hg _ _,hnc,hcm,by rw[put_size];exact hcs,?_⟩⟩,put_grown _ _⟩
  have hl:(zs.mergeSort fun x y=>decide (x≤y)).length=zs.length:=srt_len zs
  rw[Nat.mul_one,put_take (by simp only[List.size_toArray];omega) (by simp only[List.size_toArray];omega)]
  simp only[List.take_of_length_le (show(zs.mergeSort fun x y=>decide (x≤y)).length≤zs.length by omega),srt]
theorem sortI_all(zs:List Int)(v:Value)(base:Nat)(w:World)(h:w.ownsRow base 3 1 v zs.length (nums zs))(hf:zs.length≤1000000):
  Calls Tryz.prog 105 #[v] w (SortsI w base v zs):=by
 by_cases h0:zs= []
 ·subst h0
  obtain⟨a,c,rfl⟩:=owns_slice h
  refine(Tryz.slices_Sort_int_none a c w).mono ?_
  rintro e w' ⟨rfl,rfl⟩
  exact⟨rfl,by simpa [srt] using h,World.grownBy.refl _ _⟩
 ·exact sortI_any zs v base w h h0 hf
def CompsI(w:World)(base:Nat)(v:Value)(zs:List Int)(e:Ending)(w':World):Prop:=
 ∃v',e= .returned v'∧w'.ownsRow base 3 1 v' (Lib.compact zs).length (nums (Lib.compact zs))∧w.grownBy w' v.ownBlock∧v'.ownBlock=v.ownBlock
theorem compact_le(zs:List Int):(Lib.compact zs).length≤zs.length:=by
 unfold Lib.compact Lib.compactUpTo
 rw[List.length_map]
 have:=List.length_filter_le (Lib.keeps zs.toArray) (List.range zs.length)
 rwa [List.length_range] at this
theorem compI_any(zs:List Int)(v:Value)(base:Nat)(w:World)(h:w.ownsRow base 3 1 v zs.length (nums zs))(hf:zs.length≤1000000):
  Calls Tryz.prog 52 #[v] w (CompsI w base v zs):=by
 by_cases h0:zs= []
 ·subst h0
  obtain⟨a,c,rfl⟩:=owns_slice h
  refine(Tryz.slices_Compact_int_empty a c w).mono ?_
  rintro e w' ⟨rfl,rfl⟩
  exact⟨_,rfl,h,World.grownBy.refl _ _,rfl⟩
 ·obtain⟨_,⟨rfl,hn⟩|⟨g,cap,cur,rfl,hb,hg,hnc,hcm,hcs,htk⟩⟩:=h
  ·exact absurd (List.eq_nil_of_length_eq_zero hn) h0
  ·refine(Tryz.slices_Compact_int g 0 cap zs w (own_holds hg htk) (by omega) hnc).mono ?_
   rintro e w' ⟨rfl,q,rfl⟩
   have hl:=compact_le zs
   have hw:Sort.putRow (Value.int .i64) (Sort.ahead w q) g 0 (Lib.compact zs++List.replicate (zs.length-(Lib.compact zs).length) 0).toArray=Sort.grow (Sort.putRow (Value.int .i64) (Sort.ahead w q) g 0 (Lib.compact zs++List.replicate (zs.length-(Lib.compact zs).length) 0).toArray) #[]:=by
    simp only[Sort.grow,Array.append_empty]
   rw[hw]
   refine⟨_,rfl,⟨by simp[nums],.inr ⟨g,cap,_,rfl,hb,put_block hg _ _,by omega,hcm,by rw[put_size];exact hcs,?_⟩⟩,put_grown _ _,rfl⟩
   rw[Nat.mul_one,put_take (by simp only[List.size_toArray,List.length_append,List.length_replicate];omega) (by simp only[List.size_toArray,List.length_append,List.length_replicate];omega)]
   simp
theorem GAt.turn{base:Nat}{w w':World}{GB:Nat}{vs:List Value}{gs:List (List Int)}(h:GAt base w GB vs gs){i:Nat}{v:Value}{g':List Int}(hi:i<gs.length)(hv:vs[i]?=some v)
  (hown:w'.ownsRow base 3 1 v g'.length (nums g')) (hg:w.grownBy w' v.ownBlock):GAt base w' GB vs (gs.set i g'):=by
 have ovi:=h.own i v gs[i] hv (List.getElem?_eq_getElem hi)
 refine⟨by rw[List.length_set];exact h.len,h.row.kept hg (h.row.ty.ne ovi (by decide)),fun j u g h1 h2=>?_,h.ap⟩
 by_cases e:j=i
 ·subst e
  rw[List.getElem?_set_self hi] at h2
  cases h2
  rw[hv] at h1
  cases h1
  exact hown
 ·rw[List.getElem?_set_ne (Ne.symm e)] at h2
  exact(h.own j u g h1 h2).kept hg (h.ap j i u v e h1 hv)
/-! The graph in plain lists. -/
def addE(g:List (List Int))(l:Lnk):List (List Int):=g.set l.node.toNat (g.getD l.node.toNat []++ [l.prov])
def rawG(n:Nat)(ls:List Lnk):List (List Int):=ls.foldl addE (List.replicate n [])
def normG(g:List Int):List Int:=Lib.compact (srt g)
def graphT(ts:Tr)(pn cn:St):Except Int (List (List Int)):=
 match allT ts pn cn ts.length with
 | .error e=> .error e
 | .ok ls=> .ok ((rawG ts.length ls).map normG)
theorem addE_len(g:List (List Int))(l:Lnk):(addE g l).length=g.length:=by simp[addE]
theorem rawG_snoc(n:Nat)(ls:List Lnk)(l:Lnk):rawG n (ls++ [l])=addE (rawG n ls) l:=by simp[rawG,List.foldl_append]
theorem rawG_len(n:Nat)(ls:List Lnk):(rawG n ls).length=n:=by
 have:∀(ls:List Lnk) (g:List (List Int)),(ls.foldl addE g).length=g.length:=by
  intro ls
  induction ls with
  |nil=>intro g;rfl
  |cons l ls ih=>intro g;rw[List.foldl_cons,ih,addE_len]
 rw[rawG,this,List.length_replicate]
theorem rawG_row(n:Nat)(ls:List Lnk):∀i (h:i<(rawG n ls).length),(rawG n ls)[i].length≤ls.length:=by
 have:∀(ls:List Lnk) (g:List (List Int)) (m:Nat),(∀i (h:i<g.length),g[i].length≤m)→∀i (h:i<(ls.foldl addE g).length),(ls.foldl addE g)[i].length≤m+ls.length:=by
  intro ls
  induction ls with
  |nil=>intro g m hm i h;exact Nat.le_trans (hm i h) (by simp)
  |cons l ls ih=>
   intro g m hm i h
   have:=ih (addE g l) (m+1) (fun j hj=>by
    unfold addE at hj ⊢
    rw[List.getElem_set]
    split
    ·rename_i e
     rw[List.length_append,List.getD_eq_getElem?_getD]
     rw[List.length_set] at hj
     rw[List.getElem?_eq_getElem (by omega)]
     have:=hm l.node.toNat (by omega)
     simp only[Option.getD_some,List.length_cons,List.length_nil]
     omega
    ·rw[List.length_set] at hj
     have:=hm j hj
     omega) i h
   simp only[List.length_cons]
   simp only[List.foldl_cons] at this ⊢
   omega
 intro i h
 have:=this ls (List.replicate n []) 0 (fun j hj=>by simp) i h
 exact Nat.le_trans this (by omega)
def LnkIn(n:Nat)(l:Lnk):Prop:=∃i j:Nat,l.node=i∧i<n∧l.prov=j∧j<n
theorem ofF_in(ts:Tr)(i:Nat)(hi:i<ts.length)(pn cn:St):∀(f:Nat) (l:List Int) (out ls:List Lnk),(∀x∈out,LnkIn ts.length x)→ofF ts i pn cn f l out= .ok ls→∀x∈ls,LnkIn ts.length x:=by
 intro f
 induction f with
 |zero=>intro l out ls ho h;injection h with h;subst h;exact ho
 |succ f ih=>
  intro l out ls ho h
  cases l with
  |nil=>injection h with h;subst h;exact ho
  |cons p l=>
   unfold ofF at h
   split at h
   ·cases h
   ·rename_i k hk
    split at h
    ·cases h
    ·split at h
     ·cases h
     ·refine ih _ _ _ (fun x hx=>?_) h
      rcases List.mem_append.1 hx with q|q
      ·exact ho x q
      ·rw[List.mem_singleton.1 q]
       exact⟨i,k,rfl,hi,rfl,phan_lt hk⟩
theorem allT_in{ts:Tr}{pn cn:St}:∀(k:Nat),k≤ts.length→∀ls,allT ts pn cn k= .ok ls→∀x∈ls,LnkIn ts.length x:=by
 intro k
 induction k with
 |zero=>intro _ ls h;injection h with h;subst h;intro x hx;cases hx
 |succ k ih=>
  intro hk ls h
  rw[allT] at h
  split at h
  ·cases h
  ·rename_i out ho
   split at h
   ·cases h
   ·rename_i l hl
    injection h with h
    subst h
    intro x hx
    rcases List.mem_append.1 hx with q|q
    ·exact ih (by omega) out ho x q
    ·unfold ofT at hl
     split at hl
     ·injection hl with hl;subst hl;cases q
     ·split at hl
      ·injection hl with hl;subst hl;cases q
      ·split at hl
       ·exact ofF_in ts k (by omega) pn cn _ _ _ _ (fun y hy=>by cases hy) hl x q
       ·cases hl
theorem infoSl:(Tryz.prog.info? 38).map (fun i=>(i.zero,i.size,i.bytes))=some (some (.slice none 0 0),1,24):=by kernel_rfl
def GivesG(w:World)(r:Except Int (List (List Int)))(e:Ending)(w':World):Prop:=
 match r with
 | .error k=>e= .returned (.tuple #[.slice none 0 0,.int .i64 k])∧Gr w w'
 | .ok gs=>∃GB vs,e= .returned (.tuple #[.slice (some ⟨GB,0,none⟩) gs.length gs.length,.int .i64 0])∧GAt w.heap.size w' GB vs gs∧w.heap.size≤GB∧Gr w w'
def normK(g:List (List Int))(k:Nat):List (List Int):=(g.take k).map normG++g.drop k
theorem normK_len(g:List (List Int))(k:Nat):(normK g k).length=g.length:=by
 unfold normK;rw[List.length_append,List.length_map,List.length_take,List.length_drop];omega
theorem normK_at(g:List (List Int))(k:Nat)(h:k<g.length):(normK g k)[k]'(by rw[normK_len];exact h)=g[k]:=by
 have e:((g.take k).map normG).length=k:=by rw[List.length_map,List.length_take];omega
 simp only[normK]
 rw[List.getElem_append_right (by rw[e];exact Nat.le_refl _),List.getElem_drop]
 congr 1
 omega
theorem normK_step(g:List (List Int))(k:Nat)(h:k<g.length):(normK g k).set k (normG g[k])=normK g (k+1):=by
 have e0:((g.take k).map normG).length=k:=by rw[List.length_map,List.length_take];omega
 unfold normK
 rw[List.set_append_right _ _ (by rw[e0];exact Nat.le_refl _),List.drop_eq_getElem_cons h]
 have e:k-((g.take k).map normG).length=0:=by rw[e0];omega
 rw[e,List.set_cons_zero,List.take_succ_eq_append_getElem h,List.map_append]
 simp
theorem normK_end(g:List (List Int)):normK g g.length=g.map normG:=by simp[normK]
theorem allT_len{ts:Tr}(hg:GoodT ts){pn cn:St}:∀(k:Nat),k≤ts.length→∀ls,allT ts pn cn k= .ok ls→ls.length≤k*64:=by
 intro k
 induction k with
 |zero=>intro _ ls h;injection h with h;subst h;simp
 |succ k ih=>
  intro hk ls h
  rw[allT] at h
  split at h
  ·cases h
  ·rename_i out ho
   split at h
   ·cases h
   ·rename_i l hl
    injection h with h
    subst h
    have h1:=ih (by omega) out ho
    have h2:=ofT_len hg (show k<ts.length by omega) hl
    rw[List.length_append]
    omega
theorem lnk_at{w:World}{base c:Nat}{a:Option Addr}{ts:List LT}(h:w.ownsRow base 40 5 (.slice a ts.length c) ts.length (encLks ts)){k:Nat}(hk:k<ts.length):
  ∃g,a=some ⟨g,0,none⟩∧w.cell? ⟨g,k*5,none⟩=some (.int .i64 ts[k].l.node)∧w.cell? ⟨g,k*5+1,none⟩=some (.int .i64 ts[k].l.prov)∧w.cell? ⟨g,k*5+2,none⟩=some (.string (bs ts[k].l.prop))∧w.cell? ⟨g,k*5+3,none⟩=some (.int .i64 ts[k].l.idx)∧w.cell? ⟨g,k*5+4,none⟩=some (.slice ts[k].a ts[k].l.args.length ts[k].c):=by
 obtain⟨g,cap,e1,h1,_,hc⟩:=owns_cell h (by omega)
 cases e1
 have hf:=fun j (hj:j<5)=>flat_at encLk 5 (fun _=>rfl) ts k j hk hj
 have h2:∀j,j<5→w.cell? ⟨g,k*5+j,none⟩=(encLk ts[k])[j]?:=fun j hj=>by
  rw[hc (k*5+j) (by omega)];exact hf j hj
 exact⟨g,rfl,h2 0 (by omega),h2 1 (by omega),h2 2 (by omega),h2 3 (by omega),h2 4 (by omega)⟩
theorem graph_any(ts:Tr)(a:Option Addr)(cap:Nat)(pn cn:St)(w:World)(h:SlOf 3 RNod w a ts)(hc:chkT ts=0):
  Calls Tryz.prog 53 #[.agg #[.slice a ts.length cap],.string (bs pn),.string (bs cn)] w (GivesG w (graphT ts pn cn)):=by
 have H:=Lib.hid h
 have C:=Lib.hid hc
 have G:=Lib.hid (good_of hc)
 have h120:=(good_of hc).len.2
 have hmk:=run_make_row' (P:=Tryz.prog) 114 38 (.slice none 0 0) 24 Tryz.underlying114 infoSl rfl .i64 .i64 ts.length (by omega) (by omega)
 clear h hc
 go_enter Tryz.func53,Tryz.ntmps53
 go_wp2_with fail
 have RB:=Lib.hid (Row.new w #[.slice a ts.length cap] 31)
 obtain⟨W1,hW1⟩:∃W:World,Hid (W=w.alloc (.cells #[.slice a ts.length cap] 31)):=⟨_,Lib.hid rfl⟩
 rw[←hW1.out] at RB ⊢
 have G1:Hid (Gr w W1):=Lib.hid (by rw[hW1.out];exact(Gr.refl _).alloc _)
 obtain⟨P0,hP0⟩:∃N:Nat,Hid (w.heap.size=N):=⟨_,Lib.hid rfl⟩
 rw[hP0.out] at RB ⊢
 clear hW1 hP0
 refine(all_any ts a cap pn cn W1 (H.out.gr RNod.mono G1.out) C.out).mono ?_
 intro e w1 hgv
 cases hz:allT ts pn cn ts.length with
 |error er=>
  rw[hz] at hgv
  have er2:Hid (graphT ts pn cn= .error er):=Lib.hid (by unfold graphT;rw[hz])
  have eb:(er !=0)=true:=by
   rw[bne_iff_ne]
   have:∀k,allT ts pn cn k= .error er→er=25∨er=26:=by
    intro k
    induction k with
    |zero=>intro q;cases q
    |succ k ih=>
     intro q
     rw[allT] at q
     split at q
     ·rename_i e' he'
      injection q with q;subst q
      exact ih he'
     ·split at q
      ·rename_i e' he'
       injection q with q;subst q
       exact ofT_err he'
      ·cases q
   have:=this _ hz
   omega
  obtain⟨rfl,hg⟩:=hgv
  have G2:=Lib.hid (G1.out.trans hg)
  clear hg hz
  go_wp2_with fail
  refine bodyPost_ret (v:= .tuple #[.slice none 0 0,.int .i64 er]) (by simp[results,Tryz.results53,go_sem]) rfl ?_
  rw[er2.out]
  exact⟨rfl,G2.out⟩
 |ok ls=>
  rw[hz] at hgv
  have GE:Hid (graphT ts pn cn= .ok ((rawG ts.length ls).map normG)):=Lib.hid (by unfold graphT;rw[hz])
  have IN:=Lib.hid (allT_in ts.length (Nat.le_refl _) ls hz)
  have LL:Hid (ls.length≤7680):=Lib.hid (by have:=allT_len G.out ts.length (Nat.le_refl _) ls hz;omega)
  obtain⟨v,lts,rfl,h1,h2,h3,hg⟩:=hgv
  obtain⟨va,vc,rfl⟩:=owns_slice h2
  have HLEN:Hid (lts.length=ls.length):=Lib.hid (by rw[←h1];simp[lks])
  have hll2:lts.length≤7680:=by rw[HLEN.out];exact LL.out
  have G2:=Lib.hid (G1.out.trans hg)
  have OW:=Lib.hid h2
  have H1:=Lib.hid h1
  have b0:w1.cell? ⟨P0,0,none⟩=some (.slice a ts.length cap):=(RB.out.gr hg).cell 0 (by simp)
  have hh:=has_of_cell b0
  clear hg hz h1 h2 h3 RB G1
  go_wp2_with fail
  have RG:=Lib.hid (Row.new w1 (madeCells #[.slice none 0 0] ts.length) 38)
  obtain⟨W2,hW2⟩:∃W:World,Hid (W=w1.alloc (.cells (madeCells #[.slice none 0 0] ts.length) 38)):=⟨_,Lib.hid rfl⟩
  rw[←hW2.out] at RG ⊢
  rw[made_one] at RG
  have G12:Hid (Gr w1 W2):=Lib.hid (by rw[hW2.out];exact(Gr.refl _).alloc _)
  have G3:=Lib.hid (G2.out.trans G12.out)
  have OW3:=Lib.hid (Gr.owns OW.out G12.out)
  have gb:=Lib.hid G2.out.size
  obtain⟨GB,hGB⟩:∃N:Nat,Hid (w1.heap.size=N):=⟨_,Lib.hid rfl⟩
  rw[hGB.out] at RG gb ⊢
  have GA:=Lib.hid (GAt.new (base:=w.heap.size) RG.out)
  clear hW2 hGB RG G12 OW b0 hh G2 hmk
  go_loopw [30] (fun i wr=>∃(k:Nat) (vs:List Value),k≤lts.length∧i= .int .i64 k∧GAt w.heap.size wr GB vs (rawG ts.length (ls.take k))∧wr.ownsRow W1.heap.size 40 5 (.slice va lts.length vc) lts.length (encLks lts)∧Gr w wr) (fun i _=>lts.length-(intOf i).toNat)
  case atStart=>exact⟨0,_,Nat.zero_le _,rfl,GA.out,OW3.out,G3.out⟩
  case round=>
   clear GA OW3 G3
   obtain⟨k,vs,hk,rfl,hga,how,hg⟩:=hrel
   have GA:=Lib.hid hga
   have OW:=Lib.hid how
   have HG:=Lib.hid hg
   clear hga how hg
   by_cases hlt:k<lts.length
   ·obtain⟨gv,hvv,d0,d1,d2,d3,d4⟩:=lnk_at OW.out hlt
    obtain⟨i,j,hni,hin,hpj,hjn⟩:=IN.out lts[k].l (by rw[←H1.out];exact List.mem_map_of_mem (List.getElem_mem hlt))
    subst hvv
    have hh:=has_of_cell d0
    obtain⟨t,ht⟩:∃t,t=lts[k]:=⟨_,rfl⟩
    have HT:=Lib.hid ht
    rw[←ht] at d0 d1 d2 d3 d4 hni hpj
    have HNI:=Lib.hid hni
    clear ht
    have RX:=Lib.hid (Row.new wr #[.int .i64 t.l.node,.int .i64 t.l.prov,.string (bs t.l.prop),.int .i64 t.l.idx,.slice t.a t.l.args.length t.c] 40)
    clear hni hpj hjn
    go_wp2_with fail
    obtain⟨W5,hW5⟩:∃W:World,Hid (W=wr.alloc (.cells #[.int .i64 t.l.node,.int .i64 t.l.prov,.string (bs t.l.prop),.int .i64 t.l.idx,.slice t.a t.l.args.length t.c] 40)):=⟨_,Lib.hid rfl⟩
    have G5:Hid (Gr wr W5):=Lib.hid (by rw[hW5.out];exact(Gr.refl _).alloc _)
    rw[←hW5.out] at RX ⊢
    obtain⟨LB,hLB⟩:∃N:Nat,Hid (wr.heap.size=N):=⟨_,Lib.hid rfl⟩
    rw[hLB.out] at RX ⊢
    have GA5:=Lib.hid (GA.out.gr G5.out)
    have OW5:=Lib.hid (Gr.owns OW.out G5.out)
    have HG5:=Lib.hid (HG.out.trans G5.out)
    clear hW5 hLB d0 d1 d2 d3 d4 hh G5 GA OW HG
    have hig:i<(rawG ts.length (ls.take k)).length:=by rw[rawG_len];exact hin
    obtain⟨ra,rc,hvi,hro⟩:=GA5.out.at hig
    have hgl:(rawG ts.length (ls.take k))[i].length≤100000:=by
     have:=rawG_row ts.length (ls.take k) i hig
     rw[List.length_take] at this
     have:=HLEN.out
     omega
    refine wp_code_eq (c:=Code.region 8 (regIn 8 Tryz.f53) true) (by kernel_rfl) (gr8 (wb:=w) GA5.out hvi hro ⟨by rw[←HNI.out];rfl,rfl⟩ RX.out hin hgl HG5.out.size ?_)
    intro t34 t35 t36 t37 t38 t39 t40 t41 t42 t43 t44 t45 t46 wx hfin
    have FN:=Lib.hid hfin
    have HRO:=Lib.hid hro
    have HVI:=Lib.hid hvi
    unfold gr8A
    clear hfin hro hvi
    go_wp2_with fail
    go_roundw
    case rel=>
     obtain⟨t5,w5,rfl,hbx,hrw,hgr,hot,hloc⟩:=FN.out
     have hput:=GA5.out.put hig HVI.out hot hgr hloc
     refine⟨k+1,vs.set i t5,by omega,by go_num,?_,?_,?_⟩
     ·have e:rawG ts.length (ls.take (k+1))=(rawG ts.length (ls.take k)).set i ((rawG ts.length (ls.take k))[i]++ [t.l.prov]):=by
       have hk2:k<ls.length:=by rw[←HLEN.out];exact hlt
       have e1:ls[k]=t.l:=by
        have:=H1.out
        subst this
        rw[HT.out];simp[lks]
       rw[List.take_succ_eq_append_getElem hk2,rawG_snoc,addE,e1,HNI.out,Int.toNat_natCast,List.getD_eq_getElem?_getD,List.getElem?_eq_getElem hig]
       rfl
      rw[e]
      exact hput
     ·have o:=OW5.out.kept hgr (owns_ne OW5.out HRO.out (by decide))
      exact owns_stc o (owns_ne_ty o hrw.ty (by decide))
     ·exact(HG5.out.grown hgr (fun j e=>(HRO.out.lt j e).1)).setc gb.out
    case measure=>simp[intOf];omega
   ·obtain rfl:k=lts.length:=by omega
    have e0:ls.take lts.length=ls:=List.take_of_length_le (by rw[HLEN.out];exact Nat.le_refl _)
    rw[e0] at GA
    obtain⟨w6,hw6⟩:∃W,W=wr:=⟨_,rfl⟩
    rw[←hw6] at GA HG
    obtain⟨R,hR⟩:∃R,Hid (rawG ts.length ls=R):=⟨_,Lib.hid rfl⟩
    have RL:Hid (R.length=ts.length):=Lib.hid (by rw[←hR.out,rawG_len])
    have RR:Hid (∀i (h:i<R.length),R[i].length≤7680):=Lib.hid (by rw[←hR.out];intro i h;exact Nat.le_trans (rawG_row _ _ i h) LL.out)
    rw[hR.out] at GA GE
    clear OW IN e0 hlt hll2 hk
    go_wp2_with fail
    go_loopw [50] (fun i wr=>∃(k:Nat) (vs:List Value),k≤ts.length∧i= .int .i64 k∧GAt w.heap.size wr GB vs (normK R k)∧Gr w wr) (fun i _=>ts.length-(intOf i).toNat)
    case atStart=>rw[←hw6];exact⟨0,vs,Nat.zero_le _,rfl,by simpa [normK] using GA.out,HG.out⟩
    case round=>
     clear hw6 GA HG
     obtain⟨k,vs,hk,rfl,hga,hg⟩:=hrel
     have GA:=Lib.hid hga
     have HG:=Lib.hid hg
     clear hga hg
     by_cases hlt:k<ts.length
     ·have hkR:k<R.length:=by rw[RL.out];exact hlt
      have hkn:k<(normK R k).length:=by rw[normK_len];exact hkR
      obtain⟨ra,rc,hvi,hro⟩:=GA.out.at hkn
      rw[normK_at R k hkR] at hvi hro
      obtain⟨g,hg⟩:∃g,g=R[k]:=⟨_,rfl⟩
      have hgl:g.length≤7680:=by rw[hg];exact RR.out k hkR
      rw[←hg] at hvi hro
      have NS:Hid ((normK R k).set k (normG g)=normK R (k+1)):=Lib.hid (by rw[hg];exact normK_step R k hkR)
      have hil:k<vs.length:=(List.getElem?_eq_some_iff.1 hvi).1
      have c9:wr.cell? ⟨GB,k,none⟩=some (.slice ra g.length rc):=by rw[GA.out.row.cell k hil];exact congrArg some (List.getElem?_eq_some_iff.1 hvi).2
      have ch:=has_of_cell c9
      have k2:(k:Int)<ts.length:=by omega
      have HVI:=Lib.hid hvi
      have HRO:=Lib.hid hro
      have HIL:=Lib.hid hil
      clear hg hvi hro hil
      go_wp2_with fail
      refine(sortI_all g _ w.heap.size wr HRO.out (by omega)).mono ?_
      rintro e w5 ⟨rfl,hso,hgr⟩
      have GA5:=Lib.hid (GA.out.turn hkn HVI.out (g':=srt g) (by rw[srt_len];exact hso) hgr)
      have HSO:Hid (w5.ownsRow w.heap.size 3 1 (.slice ra g.length rc) (srt g).length (nums (srt g))):=Lib.hid (by rw[srt_len];exact hso)
      have HG5:=Lib.hid (HG.out.grown hgr (fun j e=>(HRO.out.lt j e).1))
      have c10:w5.cell? ⟨GB,k,none⟩=some (.slice ra g.length rc):=by rw[GA5.out.row.cell k HIL.out];exact congrArg some (List.getElem?_eq_some_iff.1 HVI.out).2
      have ch2:=has_of_cell c10
      clear c9 ch hso hgr
      go_wp2_with fail
      refine(compI_any (srt g) _ w.heap.size w5 HSO.out (by rw[srt_len];omega)).mono ?_
      rintro e w7 ⟨v',rfl,hco,hgr,hbl⟩
      obtain⟨a7,c7,rfl⟩:=owns_slice hco
      have hrw:Row w7 GB 38 vs:=GA5.out.row.kept hgr (GA5.out.row.ty.ne HSO.out (by decide))
      have HCO:=Lib.hid hco
      have HGR:=Lib.hid hgr
      have HBL:=Lib.hid hbl
      have c11:w7.cell? ⟨GB,k,none⟩=some (.slice ra g.length rc):=by rw[hrw.cell k HIL.out];exact congrArg some (List.getElem?_eq_some_iff.1 HVI.out).2
      have cf:=hrw.free k
      have ch3:=has_of_cell c11
      have GBW:Hid (w.heap.size≤GB):=gb
      clear hco hgr hbl c10 ch2 hrw
      go_wp2_with fail
      go_roundw
      case rel=>
       have hput:=GA5.out.put (i:=k) (by rw[List.length_set];exact hkn) HVI.out HCO.out HGR.out (.inl HBL.out)
       rw[List.set_set] at hput
       refine⟨k+1,vs.set k (.slice a7 (Lib.compact (srt g)).length c7),by omega,by go_num,?_,?_⟩
       ·rw[←NS.out];exact hput
       ·exact(HG5.out.grown HGR.out (fun j e=>(HSO.out.lt j e).1)).setc gb.out
      case measure=>simp[intOf];omega
     ·obtain rfl:k=ts.length:=by omega
      have e1:normK R ts.length=R.map normG:=by rw[←RL.out,normK_end]
      rw[e1] at GA
      go_wp2_with fail
      refine bodyPost_ret (v:= .tuple #[.slice (some ⟨GB,0,none⟩) ts.length ts.length,.int .i64 0]) (by simp[results,Tryz.results53,go_sem]) rfl ?_
      rw[GE.out]
      exact⟨GB,vs,by rw[List.length_map,RL.out],GA.out,gb.out,HG.out⟩
def InG(n:Nat)(gs:List (List Int)):Prop:=∀g∈gs,∀y∈g,∃j:Nat,y=j∧j<n
theorem mem_compact{zs:List Int}{y:Int}(h:y∈Lib.compact zs):y∈zs:=by
 unfold Lib.compact Lib.compactUpTo at h
 obtain⟨i,hi,rfl⟩:=List.mem_map.1 h
 have hi2:=List.mem_range.1 (List.mem_filter.1 hi).1
 rw[getElem!_pos zs.toArray i (by simpa using hi2)]
 simp
theorem rawG_in(n:Nat):∀(ls:List Lnk),(∀l∈ls,LnkIn n l)→InG n (rawG n ls):=by
 have:∀(ls:List Lnk) (g:List (List Int)),InG n g→(∀l∈ls,LnkIn n l)→InG n (ls.foldl addE g):=by
  intro ls
  induction ls with
  |nil=>intro g hg _;exact hg
  |cons l ls ih=>
   intro g hg hl
   rw[List.foldl_cons]
   refine ih _ ?_ (fun x hx=>hl x (List.mem_cons_of_mem _ hx))
   intro r hr y hy
   unfold addE at hr
   rcases List.mem_or_eq_of_mem_set hr with q|q
   ·exact hg r q y hy
   ·subst q
    rcases List.mem_append.1 hy with z|z
    ·rw[List.getD_eq_getElem?_getD] at z
     by_cases hlt:l.node.toNat<g.length
     ·rw[List.getElem?_eq_getElem hlt] at z
      exact hg _ (List.getElem_mem hlt) y z
     ·rw[List.getElem?_eq_none (by omega)] at z
      cases z
    ·obtain⟨_,j,_,_,h3,h4⟩:=hl l (List.mem_cons_self ..)
     rw[List.mem_singleton.1 z]
     exact⟨j,h3,h4⟩
 intro ls h
 exact this ls _ (fun g hg y hy=>by rw[List.mem_replicate] at hg;rw[hg.2] at hy;cases hy) h
theorem norm_in{n:Nat}{gs:List (List Int)}(h:InG n gs):InG n (gs.map normG):=by
 intro r hr y hy
 obtain⟨g,hg,rfl⟩:=List.mem_map.1 hr
 have:=mem_compact hy
 unfold srt at this
 rw[List.mem_mergeSort] at this
 exact h g hg y this
theorem graph_in{ts:Tr}{pn cn:St}{gs:List (List Int)}(h:graphT ts pn cn= .ok gs):InG ts.length gs∧gs.length=ts.length:=by
 unfold graphT at h
 split at h
 ·cases h
 ·rename_i ls hl
  injection h with h
  subst h
  exact⟨norm_in (rawG_in _ _ (allT_in ts.length (Nat.le_refl _) ls hl)),by rw[List.length_map,rawG_len]⟩
def notDone(done:List Bool)(y:Int):Bool:=!(done.getD y.toNat false)
theorem ord1_any(done:List Bool)(y Q0 DB:Nat)(w:World)(hq:w.cell? ⟨Q0,0,none⟩=some (.slice (some ⟨DB,0,none⟩) done.length done.length))(hd:Row w DB 4 (bools done))(hy:y<done.length):
  Calls Tryz.prog 56 #[.int .i64 y,.pointer (some ⟨Q0,0,none⟩)] w (Grows w (.bool (notDone done y))):=by
 have c0:=hd.bat y hy
 have e:notDone done (y:Int)=!done[y]:=by unfold notDone;rw[Int.toNat_natCast,List.getD_eq_getElem?_getD,List.getElem?_eq_getElem hy];rfl
 have E:=Lib.hid e
 have hi:(y:Int)<done.length:=by omega
 have h1:=has_of_cell hq
 have h2:=has_of_cell c0
 clear e hd
 go_enter Tryz.func56,Tryz.ntmps56
 go_wp2_with fail
 go_ret
 exact⟨ret_bool E.out.symm,Gr.refl _⟩
theorem idxI_any(ys:List Int)(done:List Bool)(a:Option Addr)(cap Q0 DB:Nat)(w:World)(h:SlOf 1 RI w a ys)(hf:ys.length≤1000000)(hy:∀y∈ys,∃j:Nat,y=j∧j<done.length)(hq:w.cell? ⟨Q0,0,none⟩=some (.slice (some ⟨DB,0,none⟩) done.length done.length))(hd:Row w DB 4 (bools done)):
  Calls Tryz.prog 107 #[.slice a ys.length cap,.func (.func 56) #[] #[.pointer (some ⟨Q0,0,none⟩)]] w fun e w'=>∃i:Int,e= .returned (.int .i64 i)∧(decide (0≤i)=ys.any (notDone done))∧Gr w w':=by
 have H:=Lib.hid h
 have HY:=Lib.hid hy
 have HQ:=Lib.hid hq
 have HD:=Lib.hid hd
 clear h hy hq hd
 go_enter Tryz.func107,Tryz.ntmps107
 go_wp2_with fail
 go_loopw [8] (fun i wr=>∃k:Nat,k≤ys.length∧i= .int .i64 k∧(∀j (hj:j<k) (hjl:j<ys.length),notDone done ys[j]=false)∧Gr w wr) (fun i _=>ys.length-(intOf i).toNat)
 case atStart=>exact⟨0,Nat.zero_le _,rfl,fun j h=>absurd h (by omega),Gr.refl _⟩
 case round=>
  obtain⟨k,hk,rfl,hall,hg⟩:=hrel
  have HA:=Lib.hid hall
  have HG:=Lib.hid hg
  clear hall hg
  by_cases hlt:k<ys.length
  ·obtain⟨b,o,rfl,c0,_⟩:=(H.out.giI HG.out).one k hlt
   obtain⟨y,hyk,hyl⟩:=HY.out ys[k] (List.getElem_mem hlt)
   have HYK:=Lib.hid hyk
   rw[hyk] at c0
   have hh:=has_of_cell c0
   have hc:=ord1_any done y Q0 DB wr (cell_gr HG.out HQ.out) (HD.out.gr HG.out) hyl
   have HC:=Lib.hid hc
   clear hc hyk
   by_cases hv:notDone done (y:Int)=true
   ·rw[hv] at HC
    have V:=Lib.hid hv
    clear hv
    go_wp2_with (go_at_call 56;refine HC.out.mono ?_;rintro e w' ⟨rfl,O,d,rfl⟩)
    go_ret
    refine⟨_,rfl,?_,HG.out.xt _ _⟩
    rw[show decide (0≤(k:Int))=true by simp,eq_comm,List.any_eq_true]
    exact⟨_,List.getElem_mem hlt,by rw[HYK.out];exact V.out⟩
   ·rw[Bool.not_eq_true] at hv
    rw[hv] at HC
    have V:=Lib.hid hv
    clear hv
    go_wp2_with (go_at_call 56;refine HC.out.mono ?_;rintro e w' ⟨rfl,O,d,rfl⟩)
    go_roundw
    case rel=>
     refine⟨k+1,by omega,by go_num,fun j hj hjl=>?_,HG.out.xt _ _⟩
     by_cases e:j=k
     ·subst e;rw[HYK.out];exact V.out
     ·exact HA.out j (by omega) hjl
    case measure=>simp[intOf];omega
  ·go_wp2_with fail
   go_ret
   refine⟨_,rfl,?_,HG.out⟩
   rw[eq_comm,show decide ((0:Int)≤ -1)=false by simp,List.any_eq_false]
   intro x hx
   obtain⟨j,hj,rfl⟩:=List.getElem_of_mem hx
   simp[HA.out j (by omega) hj]
theorem conI_any(ys:List Int)(done:List Bool)(a:Option Addr)(cap Q0 DB:Nat)(w:World)(h:SlOf 1 RI w a ys)(hf:ys.length≤1000000)(hy:∀y∈ys,∃j:Nat,y=j∧j<done.length)(hq:w.cell? ⟨Q0,0,none⟩=some (.slice (some ⟨DB,0,none⟩) done.length done.length))(hd:Row w DB 4 (bools done)):
  Calls Tryz.prog 55 #[.slice a ys.length cap,.func (.func 56) #[] #[.pointer (some ⟨Q0,0,none⟩)]] w (Grows w (.bool (ys.any (notDone done)))):=by
 have H:=Lib.hid h
 have HY:=Lib.hid hy
 have HQ:=Lib.hid hq
 have HD:=Lib.hid hd
 clear h hy hq hd
 go_enter Tryz.func55,Tryz.ntmps55
 go_wp2_with fail
 refine(idxI_any ys done a cap Q0 DB w H.out hf HY.out HQ.out HD.out).mono ?_
 rintro e w' ⟨x,rfl,hx,O,d,rfl⟩
 have X:=Lib.hid hx
 clear hx
 go_wp2_with fail
 go_ret
 exact⟨ret_bool X.out,(Gr.refl _).xt _ _⟩
/-! The order in plain lists. -/
def readyI(g:List (List Int))(done:List Bool)(i:Nat):Bool:=!(done.getD i false)&&!((g.getD i []).any (notDone done))
def nextI(g:List (List Int))(done:List Bool):Option Nat:=(List.range g.length).find? (readyI g done)
def orderF(g:List (List Int)):Nat→List Bool→List Int→Except Int (List Int)
 |0,_,out=> .ok out
 |f+1,done,out=>match nextI g done with
  |none=> .error 10
  |some i=>orderF g f (done.set i true) (out++ [(i:Int)])
def orderT(ts:Tr)(pn cn:St):Except Int (List Int):=
 match graphT ts pn cn with
 | .error e=> .error e
 | .ok g=>orderF g g.length (List.replicate g.length false) []
theorem infoBool:(Tryz.prog.info? 4).map (fun i=>(i.zero,i.size,i.bytes))=some (some (.bool false),1,1):=by kernel_rfl
def GivesI(w:World)(r:Except Int (List Int))(e:Ending)(w':World):Prop:=
 match r with
 | .error k=>e= .returned (.tuple #[.slice none 0 0,.int .i64 k])∧Gr w w'
 | .ok o=>∃v,e= .returned (.tuple #[v,.int .i64 0])∧w'.ownsRow w.heap.size 3 1 v o.length (nums o)∧(∀z∈o,Wide z)∧Gr w w'
theorem graphT_err{ts:Tr}{pn cn:St}{er:Int}(h:graphT ts pn cn= .error er):er=25∨er=26:=by
 have hz:allT ts pn cn ts.length= .error er:=by
  unfold graphT at h
  split at h
  ·rename_i e he;injection h with h;subst h;exact he
  ·cases h
 have:∀k,allT ts pn cn k= .error er→er=25∨er=26:=by
  intro k
  induction k with
  |zero=>intro q;cases q
  |succ k ih=>
   intro q
   rw[allT] at q
   split at q
   ·rename_i e' he'
    injection q with q;subst q
    exact ih he'
   ·split at q
    ·rename_i e' he'
     injection q with q;subst q
     exact ofT_err he'
    ·cases q
 exact this _ hz
theorem graph_row{ts:Tr}(hg:GoodT ts){pn cn:St}{gs:List (List Int)}(h:graphT ts pn cn= .ok gs):∀g∈gs,g.length≤7680:=by
 unfold graphT at h
 split at h
 ·cases h
 ·rename_i ls hl
  injection h with h
  subst h
  intro g hg2
  obtain⟨r,hr,rfl⟩:=List.mem_map.1 hg2
  obtain⟨i,hi,rfl⟩:=List.getElem_of_mem hr
  have h1:=compact_le (srt (rawG ts.length ls)[i])
  rw[srt_len] at h1
  have h2:=rawG_row ts.length ls i hi
  have h3:=allT_len hg ts.length (Nat.le_refl _) ls hl
  have h4:=hg.len.2
  unfold normG
  omega
theorem next_some{g:List (List Int)}{done:List Bool}{k:Nat}(hk:k<g.length)(h:readyI g done k=true)(hb:∀j,j<k→readyI g done j=false):nextI g done=some k:=by
 unfold nextI
 rw[List.find?_eq_some_iff_getElem]
 exact⟨h,k,by simpa using hk,by simp,fun j hj=>by simp[hb j hj]⟩
theorem next_none{g:List (List Int)}{done:List Bool}(hb:∀j,j<g.length→readyI g done j=false):nextI g done=none:=by
 unfold nextI
 rw[List.find?_eq_none]
 intro x hx
 simp[hb x (List.mem_range.1 hx)]
theorem GAt.stc{base:Nat}{w:World}{GB B o T:Nat}{vs:List Value}{gs:List (List Int)}{u:Value}(h:GAt base w GB vs gs)(hB:Ty w B T)(h1:3≠T)(h2:T≠38):GAt base (w.setCell ⟨B,o,none⟩ u) GB vs gs:=
 ⟨h.len,h.row.oth (hB.apart h.row.ty h2),fun i v g q1 q2=>owns_stc (h.own i v g q1 q2) (owns_ne_ty (h.own i v g q1 q2) hB h1),h.ap⟩
theorem GAt.kept{base:Nat}{w w':World}{GB:Nat}{vs:List Value}{gs:List (List Int)}{row:Option Nat}(h:GAt base w GB vs gs)(hg:w.grownBy w' row)(h1:some GB≠row)(h2:∀(i:Nat) (v:Value),vs[i]?=some v→v.ownBlock=none∨v.ownBlock≠row):GAt base w' GB vs gs:=
 ⟨h.len,h.row.kept hg h1,fun i v g q1 q2=>(h.own i v g q1 q2).kept hg (h2 i v q1),h.ap⟩
theorem GAt.below{base:Nat}{w:World}{GB:Nat}{vs:List Value}{gs:List (List Int)}(h:GAt base w GB vs gs):∀(i:Nat) (v:Value) (k:Nat),vs[i]?=some v→v.ownBlock=some k→k<w.heap.size:=fun i v k hv hk=>by
 have hi:i<gs.length:=by rw[←h.len];exact(List.getElem?_eq_some_iff.1 hv).1
 exact((h.own i v gs[i] hv (List.getElem?_eq_getElem hi)).lt k hk).2
theorem order_any(ts:Tr)(a:Option Addr)(cap:Nat)(pn cn:St)(w:World)(h:SlOf 3 RNod w a ts)(hc:chkT ts=0):
  Calls Tryz.prog 21 #[.agg #[.slice a ts.length cap],.string (bs pn),.string (bs cn)] w (GivesI w (orderT ts pn cn)):=by
 have H:=Lib.hid h
 have C:=Lib.hid hc
 have h120:=(good_of hc).len.2
 obtain⟨i0,hi,hz0,hz1,hz2⟩:=info_parts infoInt
 clear h hc
 go_enter Tryz.func21,Tryz.ntmps21
 go_wp2_with fail
 go_step3
 go_wp2_with fail
 refine(graph_any ts a cap pn cn _ (H.out.gr RNod.mono ((Gr.refl _).alloc _)) C.out).mono ?_
 intro e w1 hgv
 cases hz:graphT ts pn cn with
 |error er=>
  rw[hz] at hgv
  have er2:Hid (orderT ts pn cn= .error er):=Lib.hid (by unfold orderT;rw[hz])
  have eb:(er !=0)=true:=by rw[bne_iff_ne];have:=graphT_err hz;omega
  obtain⟨rfl,hg⟩:=hgv
  have G2:Hid (Gr w w1):=Lib.hid (((Gr.refl _).alloc _).trans hg)
  clear hg hz
  go_wp2_with fail
  refine bodyPost_ret (v:= .tuple #[.slice none 0 0,.int .i64 er]) (by simp[results,Tryz.results21,go_sem]) rfl ?_
  rw[er2.out]
  exact⟨rfl,G2.out⟩
 |ok gs=>
  rw[hz] at hgv
  have OE:Hid (orderT ts pn cn=orderF gs gs.length (List.replicate gs.length false) []):=Lib.hid (by unfold orderT;rw[hz])
  have IG:=Lib.hid (graph_in hz)
  have RW:=Lib.hid (graph_row (good_of C.out) hz)
  have gl:gs.length≤120:=by rw[(graph_in hz).2];exact h120
  obtain⟨GB,vs,rfl,hga,hgb,hg⟩:=hgv
  have hmk:=run_make_row' (P:=Tryz.prog) 118 4 (.bool false) 1 Tryz.underlying118 infoBool rfl .i64 .i64 gs.length (by omega) (by omega)
  have G2:Hid (Gr w w1):=Lib.hid (((Gr.refl _).alloc _).trans hg)
  have GA:Hid (GAt w.heap.size w1 GB vs gs):=Lib.hid ⟨hga.len,hga.row,fun i v g h1 h2=>owns_low (hga.own i v g h1 h2) ((Gr.refl w).alloc _).size,hga.ap⟩
  have VB:Hid (∀(i:Nat) (v:Value) (k:Nat),vs[i]?=some v→v.ownBlock=some k→k<w1.heap.size):=Lib.hid GA.out.below
  have HGB:Hid (w.heap.size≤GB):=Lib.hid (Nat.le_trans ((Gr.refl w).alloc (.cells #[.slice a ts.length cap] 31)).size hgb)
  clear hg hz hga hgb
  go_wp2_with fail
  (try go_step3)
  (try go_wp2_with fail)
  have RD:=Lib.hid (Row.new w1 (madeCells #[.bool false] gs.length) 4)
  obtain⟨W2,hW2⟩:∃W:World,Hid (W=w1.alloc (.cells (madeCells #[.bool false] gs.length) 4)):=⟨_,Lib.hid rfl⟩
  have z2:Hid (W2.heap.size=w1.heap.size+1):=Lib.hid (by rw[hW2.out];simp)
  rw[←hW2.out,made_one,show List.replicate gs.length (Value.bool false)=bools (List.replicate gs.length false) by simp[bools]] at RD
  have RQ:=Lib.hid (Row.new W2 #[.slice (some ⟨w1.heap.size,0,none⟩) gs.length gs.length] 118)
  obtain⟨W3,hW3⟩:∃W:World,Hid (W=W2.alloc (.cells #[.slice (some ⟨w1.heap.size,0,none⟩) gs.length gs.length] 118)):=⟨_,Lib.hid rfl⟩
  rw[←hW3.out,z2.out] at RQ
  have G23:Hid (Gr W2 W3):=Lib.hid (by rw[hW3.out];exact(Gr.refl _).alloc _)
  have G12:Hid (Gr w1 W2):=Lib.hid (by rw[hW2.out];exact(Gr.refl _).alloc _)
  rw[←hW2.out,←hW3.out]
  have RD3:=Lib.hid (RD.out.gr G23.out)
  have GA3:=Lib.hid (GA.out.gr (G12.out.trans G23.out))
  have G3:=Lib.hid (G2.out.trans (G12.out.trans G23.out))
  have sb:=Lib.hid (show w.heap.size≤w1.heap.size from G2.out.size)
  obtain⟨Q0,hQ0⟩:∃N:Nat,Hid (w1.heap.size+1=N):=⟨_,Lib.hid rfl⟩
  rw[hQ0.out] at RQ ⊢
  obtain⟨DB,hDB⟩:∃N:Nat,Hid (w1.heap.size=N):=⟨_,Lib.hid rfl⟩
  rw[hDB.out] at RQ RD3 sb VB ⊢
  have dq:=Lib.hid (show DB≠Q0 from RD3.out.ty.apart RQ.out.ty (by decide))
  clear RD G12 G23 GA G2 hW2 hW3 z2 hQ0 hDB hmk
  go_loopg [10] gs.length (fun g v wr=>∃(done:List Bool) (out:List Int),out.length+g=gs.length∧done.length=gs.length∧orderT ts pn cn=orderF gs g done out∧(∀z∈out,Wide z)∧wr.ownsRow DB 3 1 v out.length (nums out)∧Row wr DB 4 (bools done)∧Row wr Q0 118 [.slice (some ⟨DB,0,none⟩) gs.length gs.length]∧GAt w.heap.size wr GB vs gs∧Gr w wr)
  case atStart=>exact⟨List.replicate gs.length false,[],by simp,by simp,OE.out,fun z h=>by simp at h,World.ownsRow_nil _ _ _ _,RD3.out,RQ.out,GA3.out,G3.out⟩
  case round=>
   clear RD3 RQ GA3 G3 OE
   obtain⟨done,out,hog,hdl,hor,hwd,how,hrd,hrq,hga,hg⟩:=hrel
   obtain⟨va,vc,rfl⟩:=owns_slice how
   have OG:=Lib.hid hog
   have DL:=Lib.hid hdl
   have OR:=Lib.hid hor
   have WD:=Lib.hid hwd
   have OW:=Lib.hid how
   have RD:=Lib.hid hrd
   have RQ:=Lib.hid hrq
   have GA:=Lib.hid hga
   have HG:=Lib.hid hg
   have ol:out.length≤120:=by omega
   clear hog hdl hor hwd how hrd hrq hga hg
   by_cases hgk:gk=0
   ·subst hgk
    have e1:out.length=gs.length:=by have:=OG.out;omega
    have kb:decide (out.length<gs.length)=false:=by simp;omega
    have R:Hid (orderT ts pn cn= .ok out):=Lib.hid (by rw[OR.out];rfl)
    clear e1
    go_wp2_with fail
    (try rw[Exit.noGoto_ret])
    refine bodyPost_ret (v:= .tuple #[.slice va out.length vc,.int .i64 0]) (by simp[results,Tryz.results21,go_sem]) rfl ?_
    rw[R.out]
    exact⟨_,rfl,owns_low OW.out sb.out,WD.out,HG.out⟩
   ·have kb:decide (out.length<gs.length)=true:=by have:=OG.out;simp;omega
    obtain⟨g1,hg1⟩:∃g1,gk=g1+1:=⟨gk-1,by omega⟩
    have HG1:=Lib.hid hg1
    have OR2:Hid (orderT ts pn cn=match nextI gs done with|none=> .error 10|some i=>orderF gs g1 (done.set i true) (out++ [(i:Int)])):=Lib.hid (by rw[OR.out,hg1];rfl)
    clear hg1 hgk
    obtain⟨w5,hw5⟩:∃W,W=wr:=⟨_,rfl⟩
    rw[←hw5] at OW RD RQ GA HG
    go_wp2_with fail
    go_loopg [10,33] gs.length (fun g v i wr=>∃k:Nat,k+g=gs.length∧v= .slice va out.length vc∧i= .int .i64 k∧(∀j,j<k→readyI gs done j=false)∧Gr w5 wr)
    case atStart=>exact⟨0,by omega,rfl,rfl,fun j h=>absurd h (by omega),by rw[hw5];exact Gr.refl _⟩
    case round=>
     clear hw5
     obtain⟨k,hkg,rfl,rfl,hal,hg⟩:=hrel
     have KG:=Lib.hid hkg
     have HA:=Lib.hid hal
     have HJ:=Lib.hid hg
     have kle:k≤gs.length:=by omega
     clear hkg hal
     by_cases hlt:k<gs.length
     ·have kl2:(k:Int)<gs.length:=by omega
      have kd:k<done.length:=by rw[DL.out];exact hlt
      have q0:wr.cell? ⟨Q0,0,none⟩=some (.slice (some ⟨DB,0,none⟩) gs.length gs.length):=(RQ.out.gr hg).cell 0 (by simp)
      have dk:=(RD.out.gr hg).bat k kd
      have hh:=has_of_cell q0
      have hh2:=has_of_cell dk
      obtain⟨b,hb⟩:∃b,done[k]=b:=⟨_,rfl⟩
      have HB:=Lib.hid hb
      rw[hb] at dk
      clear hb hg
      cases b with
      |true=>
       have NR:Hid (readyI gs done k=false):=Lib.hid (by unfold readyI;rw[List.getD_eq_getElem?_getD,List.getElem?_eq_getElem kd,Option.getD_some,HB.out];rfl)
       go_wp2_with fail
       go_roundg (gs.length-(k+1))
       case measure=>have:=KG.out;omega
       case rel=>
        refine⟨k+1,by omega,rfl,by go_num,fun j hj=>?_,HJ.out⟩
        by_cases e:j=k
        ·subst e;exact NR.out
        ·exact HA.out j (by omega)
      |false=>
       obtain⟨ra,rc,hvi,hro⟩:=(GA.out.gr HJ.out).at hlt
       obtain⟨g,hgk⟩:∃g,g=gs[k]:=⟨_,rfl⟩
       have HGK:=Lib.hid hgk
       rw[←hgk] at hvi hro
       have hin:∀y∈g,∃j:Nat,y=j∧j<done.length:=by
        rw[DL.out,IG.out.2]
        exact IG.out.1 g (by rw[hgk];exact List.getElem_mem hlt)
       have hil:k<vs.length:=(List.getElem?_eq_some_iff.1 hvi).1
       have gk0:wr.cell? ⟨GB,k,none⟩=some (.slice ra g.length rc):=by rw[(GA.out.gr HJ.out).row.cell k hil];exact congrArg some (List.getElem?_eq_some_iff.1 hvi).2
       have hh3:=has_of_cell gk0
       have hgw:∀z∈g,Wide z:=fun z hz=>by obtain⟨j,rfl,hj⟩:=hin z hz;have:=DL.out;unfold Wide;omega
       obtain⟨ra',rc',e',_,hsl⟩:=ints_at hro hgw
       cases e'
       have hgl:g.length≤1000000:=by have:=RW.out g (by rw[hgk];exact List.getElem_mem hlt);omega
       have DLE:=DL.out
       have HC:=Lib.hid (conI_any g done ra rc Q0 DB wr hsl hgl hin (by rw[DLE];exact q0) (RD.out.gr HJ.out))
       clear hgk hvi hro hin hil hgw hsl DLE hgl
       by_cases hv:g.any (notDone done)=true
       ·rw[hv] at HC
        have NR:Hid (readyI gs done k=false):=Lib.hid (by unfold readyI;rw[List.getD_eq_getElem?_getD,List.getD_eq_getElem?_getD,List.getElem?_eq_getElem hlt,Option.getD_some,←HGK.out,hv];simp)
        clear hv
        go_wp2_with (go_at_call 55;refine HC.out.mono ?_;rintro e w' ⟨rfl,O,d,rfl⟩)
        go_roundg (gs.length-(k+1))
        case measure=>have:=KG.out;omega
        case rel=>
         refine⟨k+1,by omega,rfl,by go_num,fun j hj=>?_,HJ.out.xt _ _⟩
         by_cases e:j=k
         ·subst e;exact NR.out
         ·exact HA.out j (by omega)
       ·rw[Bool.not_eq_true] at hv
        rw[hv] at HC
        have NX:Hid (nextI gs done=some k):=Lib.hid (next_some hlt (by unfold readyI;rw[List.getD_eq_getElem?_getD,List.getD_eq_getElem?_getD,List.getElem?_eq_getElem hlt,List.getElem?_eq_getElem (by rw[DL.out];exact hlt),Option.getD_some,Option.getD_some,←HGK.out,hv,HB.out];rfl) HA.out)
        clear hv
        go_wp2_with (first
         |(go_at_call 55;refine HC.out.mono ?_;rintro e w6 ⟨rfl,hg6⟩;have G6:=Lib.hid (HJ.out.trans hg6);have q6:w6.cell? ⟨Q0,0,none⟩=some (.slice (some ⟨DB,0,none⟩) gs.length gs.length):=(RQ.out.gr G6.out).cell 0 (by simp);have dk6:w6.cell? ⟨DB,k,none⟩=some (.bool false):=(by have:=(RD.out.gr G6.out).bat k kd;rwa [HB.out] at this);have df6:=(RD.out.gr G6.out).free k;have hh6:=has_of_cell q6;have hh7:=has_of_cell dk6;have R6:=Lib.hid (RD.out.gr G6.out);have OWX:=Lib.hid ((owns_stc (o:=k) (u:= .bool true) (Gr.owns OW.out G6.out) (owns_ne_ty (Gr.owns OW.out G6.out) R6.out.ty (by decide))).alloc (.cells #[.int .i64 k] 3));have NR:=Lib.hid (row_cells (Row.new (w6.setCell ⟨DB,k,none⟩ (.bool true)) #[.int .i64 k] 3));have SZ:=Lib.hid (size_set w6 ⟨DB,k,none⟩ (.bool true));rw[SZ.out] at NR;clear hg6)
         |(at_builtin;refine wpList_append_own _ rfl _ _ 38 rfl DB 3 i0 (.int .i64 0) 1 8 Tryz.underlying38 hi hz0 hz1 hz2 rfl (by decide) (.slice va out.length vc) out.length (nums out) rfl OWX.out ⟨w6.heap.size,0,none⟩ 1 1 [.int .i64 k] rfl rfl NR.out (by intro u hu;simp at hu;rw[hu];rfl) (by unfold maxLen;omega) (by omega) (by have:=R6.out.has;unfold Has at this;simp[World.setCell];omega) ?_;intro v' wz hown' hgrow hnil;have HOz:=Lib.hid hown';have HGz:=Lib.hid hgrow;clear hown' hgrow hnil))
        go_roundg g1
        case measure=>have:=HG1.out;omega
        case rel=>
         have ga:Gr (w6.setCell ⟨DB,k,none⟩ (.bool true)) ((w6.setCell ⟨DB,k,none⟩ (.bool true)).alloc (.cells #[.int .i64 k] 3)):=(Gr.refl _).alloc _
         have RDX:=(R6.out.bset k true).gr ga
         have RQX:=((RQ.out.gr G6.out).oth (v:= .bool true) (o:=k) dq.out).gr ga
         have GAX:=((GA.out.gr G6.out).stc (o:=k) (u:= .bool true) R6.out.ty (by decide) (by decide)).gr ga
         have HGX:Gr w ((w6.setCell ⟨DB,k,none⟩ (.bool true)).alloc (.cells #[.int .i64 k] 3)):=((HG.out.trans G6.out).setc sb.out).alloc _
         refine⟨done.set k true,out++ [(k:Int)],by rw[List.length_append];have:=OG.out;have:=HG1.out;simp only[List.length_cons,List.length_nil];omega,by rw[List.length_set];exact DL.out,by rw[OR2.out,NX.out],?_,?_,RDX.kept HGz.out (RDX.ty.ne OWX.out (by decide)),RQX.kept HGz.out (RQX.ty.ne OWX.out (by decide)),GAX.kept HGz.out (GAX.row.ty.ne OWX.out (by decide)) (fun i v hv=>?_),HGX.grown HGz.out (fun j e=>Nat.le_trans sb.out (OWX.out.lt j e).1)⟩
         ·intro z hz
          rcases List.mem_append.1 hz with q|q
          ·exact WD.out z q
          ·rw[List.mem_singleton.1 q];unfold Wide;omega
         ·have:=HOz.out
          rw[List.length_append]
          simpa [nums] using this
         ·cases hz:v.ownBlock with
          |none=>exact .inl rfl
          |some m=>
           refine .inr fun e=>?_
           have h1:=VB.out i v m hv hz
           have h2:=(OWX.out.lt m e.symm).1
           omega
     ·have R:Hid (orderT ts pn cn= .error 10):=Lib.hid (by rw[OR2.out,next_none (fun j hj=>HA.out j (by omega))])
      go_wp2_with fail
      (try rw[Exit.noGoto_ret])
      refine bodyPost_ret (v:= .tuple #[.slice none 0 0,.int .i64 10]) (by simp[results,Tryz.results21,go_sem]) rfl ?_
      rw[R.out]
      exact⟨rfl,HG.out.trans HJ.out⟩
end Go.Proofs.YtdjhnfopdlgliaaGreat
namespace Go.Proofs.YtdjhnfopdlgliaaGreat
open Go.RowKit
def sC:St:= [99,108,111,99,107,115]
def sCC:St:= [35,99,108,111,99,107,45,99,101,108,108,115]
def exT:Tr:= [⟨-1,[],[]⟩,⟨0,[97],[⟨sC,cellsS [1,5,2]⟩]⟩,⟨0,[98],[⟨sCC,cellsS [1]⟩,⟨phS,cellsS [1]⟩]⟩,⟨0,[99],[⟨phS,cellsS [2]⟩]⟩]
theorem exT_chk:chkT exT=0:=by decide+kernel
theorem exT_of:ofT exT 1 sC sCC= .ok [⟨1,2,sC,0,[5]⟩,⟨1,3,sC,1,[]⟩]:=by kernel_rfl
theorem exT_all:allT exT sC sCC 4= .ok [⟨1,2,sC,0,[5]⟩,⟨1,3,sC,1,[]⟩]:=by kernel_rfl
theorem srt_sorted{l:List Int}(h:l.Pairwise (fun x y=>x≤y)):srt l=l:=by
 unfold srt
 exact List.mergeSort_of_pairwise (by simpa using h)
theorem exT_graph:graphT exT sC sCC= .ok [[],[2,3],[],[]]:=by
 unfold graphT
 rw[show exT.length=4 from rfl,exT_all]
 have e:rawG 4 [⟨1,2,sC,0,[5]⟩,⟨1,3,sC,1,[]⟩]= [[],[2,3],[],[]]:=by decide+kernel
 simp only[e,List.map_cons,List.map_nil,normG,srt_sorted (show([]:List Int).Pairwise (fun x y=>x≤y) from .nil),srt_sorted (show([2,3]:List Int).Pairwise (fun x y=>x≤y) by simp)]
 have e2:([Lib.compact [],Lib.compact [2,3],Lib.compact [],Lib.compact []]:List (List Int))= [[],[2,3],[],[]]:=by kernel_rfl
 rw[e2]
theorem exT_order:orderT exT sC sCC= .ok [0,2,3,1]:=by
 unfold orderT
 rw[exT_graph]
 kernel_rfl
open Classical
theorem ne_at{α:Type}{xs ys:List α}(k:Nat)(hx:k<xs.length)(hy:k<ys.length)(h:xs[k]≠ys[k]):xs≠ys:=by
 rintro rfl;exact h rfl
theorem eq_all{α:Type}{xs ys:List α}(hl:xs.length=ys.length)(h:∀j (hx:j<xs.length) (hy:j<ys.length),xs[j]=ys[j]):xs=ys:=
 List.ext_getElem hl fun i h1 h2=>h i h1 h2
theorem ints_any(xs ys:List Int)(ax ay:Option Addr)(cx cy:Nat)(w:World)(hx:SlOf 1 RI w ax xs)(hy:SlOf 1 RI w ay ys)(fx:Fit xs.length)(_fy:Fit ys.length):
  Calls Tryz.prog 28 #[.slice ax xs.length cx,.slice ay ys.length cy] w (Grows w (.bool (decide (xs=ys)))):=by
 unfold Fit at fx
 have HX:=Lib.hid hx
 have HY:=Lib.hid hy
 clear hx hy
 by_cases hl:xs.length=ys.length
 ·have hlb:((xs.length:Int) !=(ys.length:Int))=false:=by simp[hl]
  have HL:=Lib.hid hl
  clear hl
  go_enter Tryz.func28,Tryz.ntmps28
  go_wp2
  go_loopw [5] (fun i wr=>∃k:Nat,k≤xs.length∧i= .int .i64 k∧(∀j (h1:j<xs.length) (h2:j<ys.length),j<k→xs[j]=ys[j])∧∃n,wr=w.drewN n) (fun i _=>xs.length-(intOf i).toNat)
  case atStart=>exact⟨0,Nat.zero_le _,rfl,fun j _ _ h=>absurd h (by omega),0,rfl⟩
  case round=>
   obtain⟨k,hk,rfl,hall,n,rfl⟩:=hrel
   have HA:=Lib.hid hall
   clear hall
   by_cases hlt:k<xs.length
   ·have hlt2:k<ys.length:=by have:=HL.out;omega
    obtain⟨bx,ox,rfl,⟨c1,_⟩⟩:=HX.out.one k hlt
    obtain⟨by',oy,rfl,⟨c2,_⟩⟩:=HY.out.one k hlt2
    by_cases he:xs[k]=ys[k]
    ·have heb:(xs[k] !=ys[k])=false:=by simp[he]
     have HE:=Lib.hid he
     clear he
     go_wp2
     go_quiet (fail)
     go_wp2
     go_roundw
     case rel=>
      refine⟨k+1,by omega,by go_num,fun j h1 h2 hj=>?_,n+nq,by simp⟩
      by_cases e:j=k
      ·subst e;exact HE.out
      ·exact HA.out j h1 h2 (by omega)
     case measure=>simp[intOf];omega
    ·have heb:(xs[k] !=ys[k])=true:=by simp[he]
     have HE:=Lib.hid he
     clear he
     go_wp2
     go_quiet (fail)
     go_wp2
     go_ret
     exact⟨ret_bool (by simp[ne_at k hlt hlt2 HE.out]),by repeat(first|with_reducible exact Gr.refl _|with_reducible refine Gr.drewN _ ?_)⟩
   ·go_wp2
    go_ret
    exact⟨ret_bool (by simp[eq_all HL.out (fun j h1 h2=>HA.out j h1 h2 (by omega))]),by repeat(first|with_reducible exact Gr.refl _|with_reducible refine Gr.drewN _ ?_)⟩
 ·have hlb:((xs.length:Int) !=(ys.length:Int))=true:=by simp;omega
  go_enter Tryz.func28,Tryz.ntmps28
  go_wp2
  go_ret
  exact⟨ret_bool (by simp;intro h;exact hl (by rw[h])),Gr.refl _⟩
def encPr(p:Prp):List Value:= [.string (bs p.name),.string (bs p.val)]
theorem prps_of_row{w:World}{B T:Nat}{ps:List Prp}(h:Row w B T (ps.flatMap encPr))(hs:∀p∈ps,p.name.length≤1000∧p.val.length≤1000):SlOf 2 RPrp w (some ⟨B,0,none⟩) ps:=fun k hk=>by
 have hf:=fun j (hj:j<2)=>flat_at encPr 2 (fun _=>rfl) ps k j hk hj
 have h2:∀j,j<2→w.cell? ⟨B,k*2+j,none⟩=(encPr ps[k])[j]?:=fun j hj=>by
  have e:=hf j hj
  have hl:k*2+j<(ps.flatMap encPr).length:=by rw[flat_len encPr 2 (fun _=>rfl)];omega
  rw[h.cell _ hl,←e,List.getElem?_eq_getElem hl]
 have hb:=hs _ (List.getElem_mem hk)
 refine⟨B,0,rfl,⟨?_,by omega⟩,⟨?_,by omega⟩⟩
 ·rw[Nat.zero_add];exact h2 0 (by omega)
 ·rw[Nat.zero_add];exact h2 1 (by omega)
structure NT where
 n:Nod
 a:Option Addr
 c:Nat
def encNd(t:NT):List Value:= [.int .i64 t.n.parent,.string (bs t.n.name),.slice t.a t.n.props.length t.c]
theorem nods_of_row{w:World}{B T:Nat}{ts:List NT}(h:Row w B T (ts.flatMap encNd))(hs:∀t∈ts,Wide t.n.parent∧t.n.name.length≤1000∧t.n.props.length≤t.c∧Fit t.n.props.length∧SlOf 2 RPrp w t.a t.n.props):SlOf 3 RNod w (some ⟨B,0,none⟩) (ts.map NT.n):=fun k hk=>by
 have hk':k<ts.length:=by simpa using hk
 have hf:=fun j (hj:j<3)=>flat_at encNd 3 (fun _=>rfl) ts k j hk' hj
 have h2:∀j,j<3→w.cell? ⟨B,k*3+j,none⟩=(encNd ts[k])[j]?:=fun j hj=>by
  have e:=hf j hj
  have hl:k*3+j<(ts.flatMap encNd).length:=by rw[flat_len encNd 3 (fun _=>rfl)];omega
  rw[h.cell _ hl,←e,List.getElem?_eq_getElem hl]
 obtain⟨q1,q2,q3,q4,q5⟩:=hs _ (List.getElem_mem hk')
 rw[List.getElem_map]
 refine⟨B,0,rfl,⟨?_,q1⟩,⟨?_,by omega⟩,⟨ts[k].a,ts[k].c,?_,q3,q4,q5⟩⟩
 ·rw[Nat.zero_add];exact h2 0 (by omega)
 ·rw[Nat.zero_add];exact h2 1 (by omega)
 ·rw[Nat.zero_add];exact h2 2 (by omega)
theorem ints_row{w:World}{B T:Nat}{ns:List Nat}(h:Row w B T (nums (ns.map (fun n:Nat=>(n:Int)))))(hs:∀n∈ns,n<4294967296):SlOf 1 RI w (some ⟨B,0,none⟩) (ns.map (fun n:Nat=>(n:Int))):=
 h.s.slI (fun j hj=>by
  rw[List.getElem_map]
  have:=hs _ (List.getElem_mem (by simpa using hj:j<ns.length))
  unfold Wide;omega)
end Go.Proofs.YtdjhnfopdlgliaaGreat
