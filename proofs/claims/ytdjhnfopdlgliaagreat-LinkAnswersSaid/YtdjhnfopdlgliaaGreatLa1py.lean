/- Lemmas and contracts for the proof of LinkAnswers (several texts in one, printed by wip/tools/pack.py): LtL LtF LtE. -/
import Derived.Test.YtdjhnfopdlgliaaGreatLa1px
import Derived.Test.YtdjhnfopdlgliaaGreatLa1pu
set_option maxRecDepth 100000
set_option maxHeartbeats 16000000
set_option linter.unusedVariables false
set_option linter.unusedSimpArgs false
namespace Go.Proofs.YtdjhnfopdlgliaaGreat
open Go.RowKit
open Classical
def valK:Except Int (List Lnk)→List Lnk
 | .error _=> []
 | .ok l=>l
def valZ:Except Int (List Int)→List Int
 | .error _=> []
 | .ok l=>l
def errK{α:Type}:Except Int α→Int
 | .error e=>e
 | .ok _=>0
theorem GivesLks.uni{w w':World}{r:Except Int (List Lnk)}{e:Ending}(h:GivesLks w r e w'):∃v lts,e= .returned (.tuple #[v,.int .i64 (errK r)])∧lks lts=valK r∧w'.ownsRow w.heap.size 40 5 v lts.length (encLks lts)∧LRows w' w.heap.size lts∧Gr w w':=by
 cases r with
 |error e=>exact⟨.slice none 0 0,[],h.1,rfl,World.ownsRow_nil _ _ _ _,LRows.nil _ _,h.2⟩
 |ok l=>obtain⟨v,lts,e,h1,h2,h3,h4⟩:=h;exact⟨v,lts,e,h1,h2,h3,h4⟩
theorem GivesI.uni{w w':World}{r:Except Int (List Int)}{e:Ending}(h:GivesI w r e w'):∃v,e= .returned (.tuple #[v,.int .i64 (errK r)])∧w'.ownsRow w.heap.size 3 1 v (valZ r).length (nums (valZ r))∧(∀z∈valZ r,Wide z)∧Gr w w':=by
 cases r with
 |error e=>exact⟨.slice none 0 0,h.1,World.ownsRow_nil _ _ _ _,fun z hz=>by simp[valZ] at hz,h.2⟩
 |ok l=>obtain⟨v,e,h1,h2,h3⟩:=h;exact⟨v,e,h1,h2,h3⟩
def GL(w:World)(er:Int)(L:List Lnk)(e:Ending)(w':World):Prop:=∃v lts,e= .returned (.tuple #[v,.int .i64 er])∧lks lts=L∧w'.ownsRow w.heap.size 40 5 v lts.length (encLks lts)∧LRows w' w.heap.size lts∧Gr w w'
def GI(w:World)(er:Int)(zs:List Int)(e:Ending)(w':World):Prop:=∃v,e= .returned (.tuple #[v,.int .i64 er])∧w'.ownsRow w.heap.size 3 1 v zs.length (nums zs)∧(∀z∈zs,Wide z)∧Gr w w'
theorem sameL{W:World}{bx by2:Nat}{vx vy:Value}{xs ys:List LT}{L:List Lnk}(hx:W.ownsRow bx 40 5 vx xs.length (encLks xs))(hxr:LRows W bx xs)(ex:lks xs=L)(hy:W.ownsRow by2 40 5 vy ys.length (encLks ys))(hyr:LRows W by2 ys)(ey:lks ys=L)(hf:L.length≤1000000):
  Calls Tryz.prog 15 #[vx,vy] W (Grows W (.bool true)):=by
 obtain⟨ax,cx,rfl⟩:=owns_slice hx
 obtain⟨ay,cy,rfl⟩:=owns_slice hy
 exact rsame_any xs ys ax ay cx cy bx by2 W hx hy hxr hyr (ex.trans ey.symm) (by rw[←ex] at hf;simpa [lks] using hf)
theorem sameI{W:World}{bx by2:Nat}{vx vy:Value}{zs:List Int}(hx:W.ownsRow bx 3 1 vx zs.length (nums zs))(hy:W.ownsRow by2 3 1 vy zs.length (nums zs))(hw:∀z∈zs,Wide z)(hf:zs.length≤1000000):
  Calls Tryz.prog 28 #[vx,vy] W (Grows W (.bool true)):=by
 obtain⟨ax,cx,e1,_,sx⟩:=ints_at hx hw
 obtain⟨ay,cy,e2,_,sy⟩:=ints_at hy hw
 subst e1 e2
 have q:=ints_any zs zs ax ay cx cy W sx sy (by unfold Fit;omega) (by unfold Fit;omega)
 rw[decide_eq_true rfl] at q
 exact q
/-! Bounds. -/
theorem ofE_few(ts:Tr)(k:Int)(pn cn:St):(valK (ofE ts k pn cn)).length≤10000:=by
 unfold ofE
 by_cases h0:chkT ts=0
 ·rw[if_neg (by rw[h0];simp)]
  split
  ·simp[valK]
  ·cases hz:ofT ts k.toNat pn cn with
   |error e=>simp[valK]
   |ok l=>
    have:=ofT_len (good_of h0) (by omega) hz
    simp only[valK]
    omega
 ·rw[if_pos h0];simp[valK]
theorem allE_few(ts:Tr)(pn cn:St):(valK (allE ts pn cn)).length≤10000:=by
 cases hz:allE ts pn cn with
 |error e=>simp[valK]
 |ok l=>
  obtain⟨hc,ha⟩:=allE_ok hz
  exact allT_few hc ha
theorem consE_few(ts:Tr)(k:Int)(pn cn:St):(valZ (consE ts k pn cn)).length≤10000:=by
 unfold consE
 by_cases h0:chkT ts=0
 ·rw[if_neg (by rw[h0];simp)]
  split
  ·simp[valZ]
  ·cases hz:allT ts pn cn ts.length with
   |error e=>simp[valZ]
   |ok l=>
    have h1:=allT_few h0 hz
    have h2:=consR_len l k
    simp only[valZ]
    omega
 ·rw[if_pos h0];simp[valZ]
theorem rOrderF_len(ls:List Lnk)(n:Nat):∀(f:Nat) (out:List Int),(valZ (rOrderF ls n f out)).length≤out.length+f
 |0,out=>Nat.le_refl _
 |f+1,out=>by
  rw[rOrderF]
  split
  ·simp[valZ]
  ·rename_i i _
   have:=rOrderF_len ls n f (out++ [(i:Int)])
   rw[List.length_append] at this
   simp only[List.length_cons,List.length_nil] at this
   omega
theorem orderE_few(ts:Tr)(pn cn:St):(valZ (orderE ts pn cn)).length≤10000:=by
 unfold orderE
 cases hz:allE ts pn cn with
 |error e=>simp[valZ]
 |ok l=>
  obtain⟨hc,_⟩:=allE_ok hz
  have h1:=rOrderF_len l ts.length ts.length []
  have h2:=(good_of hc).len.2
  simp only[List.length_nil] at h1
  show(valZ (rOrderF l ts.length ts.length [])).length≤10000
  omega
theorem bestK_len{b c:List Int}{M:Nat}(hb:b.length≤M)(hc:c.length≤M):(bestK b c).length≤M:=by
 unfold bestK
 split<;>assumption
theorem circleE_few(ts:Tr)(pn cn:St):(valZ (circleE ts pn cn)).length≤10000:=by
 unfold circleE
 cases hz:allE ts pn cn with
 |error e=>simp[valZ]
 |ok ls=>
  obtain⟨hc,hal⟩:=allE_ok hz
  have hn:=(good_of hc).len.2
  obtain⟨_,h2,h3,_⟩:=graph_of hal
  have NI:∀a,a<ts.length→∀y∈nextR ls (a:Nat),∃j:Nat,y=j∧j<ts.length:=fun a ha=>by
   have q:=nextR_in h3 (ls:=ls) (fun i hi=>graph_next hal (by rw[←h2];exact hi)) (a:=a) (by rw[h2];exact ha)
   rw[h2] at q
   exact q
  have CL:∀i,i<ts.length→∀k∈nextR ls (i:Nat),(candR ls ts.length i k).length≤200:=fun i hi k hk=>by
   obtain⟨j,rfl,hj⟩:=NI i hi k hk
   have h1:=(rWay_ok (tt:=i) NI hj).1
   unfold candR
   split
   ·simp
   ·split
    ·simp
    ·split
     ·simp
     ·rw[Int.toNat_natCast,List.length_cons,List.length_dropLast]
      omega
  have inner:∀(i:Nat) (L:List Int) (b:List Int),(∀k∈L,(candR ls ts.length i k).length≤200)→b.length≤200→(L.foldl (fun b k=>bestK b (candR ls ts.length i k)) b).length≤200:=by
   intro i L
   induction L with
   |nil=>intro b _ hb;exact hb
   |cons x L ih=>intro b h hb;exact ih _ (fun k hk=>h k (List.mem_cons_of_mem _ hk)) (bestK_len hb (h x (List.mem_cons_self ..)))
  have outer:∀(L:List Nat) (b:List Int),(∀i∈L,i<ts.length)→b.length≤200→(L.foldl (fun b (i:Nat)=>(nextR ls (i:Int)).foldl (fun b k=>bestK b (candR ls ts.length i k)) b) b).length≤200:=by
   intro L
   induction L with
   |nil=>intro b _ hb;exact hb
   |cons x L ih=>intro b h hb;exact ih _ (fun k hk=>h k (List.mem_cons_of_mem _ hk)) (inner x _ b (CL x (h x (List.mem_cons_self ..))) hb)
  have:=outer (List.range ts.length) [] (fun i hi=>List.mem_range.1 hi) (by simp)
  show(circleR ls ts.length).length≤10000
  unfold circleR
  omega
structure BN(b len P4 P5 g m c:Nat)(w0 w:World)(v:Value):Prop where
 tr:∃ms,TrAt w0.heap.size w v ms∧ms.length≤101
 r5:Row w P5 31 [.slice (some ⟨g,0,none⟩) m c]
 r4:Row w P4 31 [.slice none 0 0]
 mv:Mv b len w0 w
 bb:b<w0.heap.size∧w0.heap.size≤P4∧w0.heap.size≤P5∧P4≠P5
theorem BI.nodN{b len P4 P5 g m c:Nat}{w0 w w':World}{ms:List NM}(h:BI b len P4 P5 g m c w0 w ms){x:NM}(hx:NdAt w0.heap.size w x){v:Value}(hg:w.grownBy w' (some g))(ho:w'.ownsRow w0.heap.size 55 3 v (ms.length+1) (ms.flatMap NM.enc++x.enc)):BN b len P4 P5 g m c w0 w' v:=by
 obtain⟨n1,n2,n3,n4⟩:=h.gne
 refine⟨⟨_,h.tr.snoc hg ho hx,by rw[List.length_append,h.ml];have:=h.m1;simp;omega⟩,h.r5.kept hg (fun e=>n1 (by injection e with e;exact e.symm)),h.r4.kept hg (fun e=>n2 (by injection e with e;exact e.symm)),h.mv.grown hg (fun k e=>by injection e with e;omega),h.bb⟩
theorem BI.nod{b len P4 P5 g m c:Nat}{w0 w w':World}{ms:List NM}(h:BI b len P4 P5 g m c w0 w ms){k:Nat}(hk:k<ms.length){v:Value}(hg:w.grownBy w' (some g))(ho:w'.ownsRow w0.heap.size 55 3 v (ms.length+1) (ms.flatMap NM.enc++(ms[k]'hk).enc)):BN b len P4 P5 g m c w0 w' v:=h.nodN (h.tr.nds _ (List.getElem_mem hk)) hg ho
theorem BN.fin{b len P4 P5 g m c:Nat}{w0 w:World}{v:Value}(h:BN b len P4 P5 g m c w0 w v):BD b len P4 P5 w0 (w.setCell ⟨P5,0,none⟩ v):=by
 obtain⟨ms,ht,hl⟩:=h.tr
 have hb:=h.bb
 refine⟨v,ms,ht.box h.r5.ty (by decide) (ht.ne_ty h.r5.ty (by decide)),hl,by have:=h.r5.set 0 v;exact this,h.r4.oth (by omega),h.mv.setc (by omega),hb.2.1,hb.2.2.2⟩
def bt23F(wr w0:World)(b len P4 P5 g m c k:Nat)(ms:List NM)(hk:k<ms.length)(t105 t106 t107 t108 t109 t110 t111 t112 t113 t114:Value)(d:Array Bool)(w:World):Prop:=
 ((d.getD 10 false=false→Row w P5 31 [.slice (some ⟨g,0,none⟩) m c])∧(d.getD 8 false=false→BI b len P4 P5 g m c w0 w ms))∧(d.getD 0 false=true→t105= .pointer (some ⟨P5,0,none⟩))∧
 (d.getD 1 false=true→t106= .slice (some ⟨g,0,none⟩) m c)∧
 (d.getD 2 false=true→t107= .pointer (some ⟨P5,0,none⟩))∧
 (d.getD 3 false=true→t108= .slice (some ⟨g,0,none⟩) m c)∧
 (d.getD 4 false=true→t109= .int .i64 (k:Int))∧
 (d.getD 5 false=true→t110= .pointer (some ⟨g,k*3,none⟩))∧
 (d.getD 6 false=true→t111= .agg #[.int .i64 (ms[k]'hk).n.parent,.string (bs (ms[k]'hk).n.name),.slice (ms[k]'hk).a (ms[k]'hk).n.props.length (ms[k]'hk).c])∧
 (d.getD 7 false=true→(∃B,t112= .slice (some ⟨B,0,none⟩) 1 1∧d.getD 6 false=true∧(d.getD 8 false=false→Row w B 55 (ms[k]'hk).enc)))∧
 (d.getD 8 false=true→((∀j,(j=1∨j=6∨j=7)→d.getD j false=true)∧(d.getD 10 false=false→∃va vl vc,t113= .slice va vl vc∧BN b len P4 P5 g m c w0 w (.slice va vl vc))))∧
 (d.getD 9 false=true→t114= .pointer (some ⟨P5,0,none⟩))∧
 (d.getD 10 false=true→((∀j,j<10→d.getD j false=true)∧BD b len P4 P5 w0 w))
def bt23A(P5 k:Nat)(t105 t106 t107 t108 t109 t110 t111 t112 t113 t114 s0 s1 s2 s3 s4 s6 s7 s9 s10 s11 s12 s13 s14 s15 s16 s17 s18 s19 s20 s21 s22 s23 s24 s25 s26 s27 s28 s29 s30 s31 s32 s33 s34 s35 s36 s37 s38 s39 s40 s41 s42 s43 s44 s45 s46 s47 s48 s49 s50 s51 s52 s53 s54 s55 s56 s57 s58 s59 s60 s61 s62 s63 s64 s65 s66 s67 s68 s69 s70 s71 s72 s73 s74 s75 s76 s77 s78 s79 s80 s81 s82 s83 s84 s85 s86 s87 s88 s89 s90 s91 s92 s93 s94 s95 s96 s97 s98 s99 s100 s101 s102 s103 s104 s115 s116 s117 s118 s119 s120 s121 s122 s123 s124 s125 s126 s127 s128 s129 s130 s131 s132 s133 s134 s135 s136 s137 s138 s139 s140 s141 s142 s143 s144 s145 s146 s147 s148 s149 s150 s151 s152 s153 s154 s155 s156 s157 s158 s159 s160 s161 s162 s163 s164 s165 s166 s167 s168 s169 s170 s171 s172:Value):Act:={tmps:= #[s0,s1,s2,s3,s4,.pointer (some ⟨P5,0,none⟩),s6,s7,.int .i64 (k:Int),s9,s10,s11,s12,s13,s14,s15,s16,s17,s18,s19,s20,s21,s22,s23,s24,s25,s26,s27,s28,s29,s30,s31,s32,s33,s34,s35,s36,s37,s38,s39,s40,s41,s42,s43,s44,s45,s46,s47,s48,s49,s50,s51,s52,s53,s54,s55,s56,s57,s58,s59,s60,s61,s62,s63,s64,s65,s66,s67,s68,s69,s70,s71,s72,s73,s74,s75,s76,s77,s78,s79,s80,s81,s82,s83,s84,s85,s86,s87,s88,s89,s90,s91,s92,s93,s94,s95,s96,s97,s98,s99,s100,s101,s102,s103,s104,t105,t106,t107,t108,t109,t110,t111,t112,t113,t114,s115,s116,s117,s118,s119,s120,s121,s122,s123,s124,s125,s126,s127,s128,s129,s130,s131,s132,s133,s134,s135,s136,s137,s138,s139,s140,s141,s142,s143,s144,s145,s146,s147,s148,s149,s150,s151,s152,s153,s154,s155,s156,s157,s158,s159,s160,s161,s162,s163,s164,s165,s166,s167,s168,s169,s170,s171,s172],defers:= []}
theorem bt23{Q:Exit→Act→World→Prop}{wr w0:World}{b len P4 P5 g m c k:Nat}{ms:List NM}{hk:k<ms.length}{s0 s1 s2 s3 s4 s6 s7 s9 s10 s11 s12 s13 s14 s15 s16 s17 s18 s19 s20 s21 s22 s23 s24 s25 s26 s27 s28 s29 s30 s31 s32 s33 s34 s35 s36 s37 s38 s39 s40 s41 s42 s43 s44 s45 s46 s47 s48 s49 s50 s51 s52 s53 s54 s55 s56 s57 s58 s59 s60 s61 s62 s63 s64 s65 s66 s67 s68 s69 s70 s71 s72 s73 s74 s75 s76 s77 s78 s79 s80 s81 s82 s83 s84 s85 s86 s87 s88 s89 s90 s91 s92 s93 s94 s95 s96 s97 s98 s99 s100 s101 s102 s103 s104 s105 s106 s107 s108 s109 s110 s111 s112 s113 s114 s115 s116 s117 s118 s119 s120 s121 s122 s123 s124 s125 s126 s127 s128 s129 s130 s131 s132 s133 s134 s135 s136 s137 s138 s139 s140 s141 s142 s143 s144 s145 s146 s147 s148 s149 s150 s151 s152 s153 s154 s155 s156 s157 s158 s159 s160 s161 s162 s163 s164 s165 s166 s167 s168 s169 s170 s171 s172:Value}(hbi:BI b len P4 P5 g m c w0 wr ms)(hkm:k<m)
  (h':∀t105 t106 t107 t108 t109 t110 t111 t112 t113 t114 wx,BD b len P4 P5 w0 wx→Q .normal (bt23A P5 k t105 t106 t107 t108 t109 t110 t111 t112 t113 t114 s0 s1 s2 s3 s4 s6 s7 s9 s10 s11 s12 s13 s14 s15 s16 s17 s18 s19 s20 s21 s22 s23 s24 s25 s26 s27 s28 s29 s30 s31 s32 s33 s34 s35 s36 s37 s38 s39 s40 s41 s42 s43 s44 s45 s46 s47 s48 s49 s50 s51 s52 s53 s54 s55 s56 s57 s58 s59 s60 s61 s62 s63 s64 s65 s66 s67 s68 s69 s70 s71 s72 s73 s74 s75 s76 s77 s78 s79 s80 s81 s82 s83 s84 s85 s86 s87 s88 s89 s90 s91 s92 s93 s94 s95 s96 s97 s98 s99 s100 s101 s102 s103 s104 s115 s116 s117 s118 s119 s120 s121 s122 s123 s124 s125 s126 s127 s128 s129 s130 s131 s132 s133 s134 s135 s136 s137 s138 s139 s140 s141 s142 s143 s144 s145 s146 s147 s148 s149 s150 s151 s152 s153 s154 s155 s156 s157 s158 s159 s160 s161 s162 s163 s164 s165 s166 s167 s168 s169 s170 s171 s172) wx):
  (Code.region 23 (regIn 23 Tryz.f23) true).wp Tryz.prog Q {tmps:= #[s0,s1,s2,s3,s4,.pointer (some ⟨P5,0,none⟩),s6,s7,.int .i64 (k:Int),s9,s10,s11,s12,s13,s14,s15,s16,s17,s18,s19,s20,s21,s22,s23,s24,s25,s26,s27,s28,s29,s30,s31,s32,s33,s34,s35,s36,s37,s38,s39,s40,s41,s42,s43,s44,s45,s46,s47,s48,s49,s50,s51,s52,s53,s54,s55,s56,s57,s58,s59,s60,s61,s62,s63,s64,s65,s66,s67,s68,s69,s70,s71,s72,s73,s74,s75,s76,s77,s78,s79,s80,s81,s82,s83,s84,s85,s86,s87,s88,s89,s90,s91,s92,s93,s94,s95,s96,s97,s98,s99,s100,s101,s102,s103,s104,s105,s106,s107,s108,s109,s110,s111,s112,s113,s114,s115,s116,s117,s118,s119,s120,s121,s122,s123,s124,s125,s126,s127,s128,s129,s130,s131,s132,s133,s134,s135,s136,s137,s138,s139,s140,s141,s142,s143,s144,s145,s146,s147,s148,s149,s150,s151,s152,s153,s154,s155,s156,s157,s158,s159,s160,s161,s162,s163,s164,s165,s166,s167,s168,s169,s170,s171,s172],defers:= []} wr:=by
 have HKM:=PLift.up hkm
 clear hkm
 have HBI:=PLift.up hbi
 obtain⟨j0,hj,hy0,hy1,hy2⟩:=info_parts infoNod
 clear hbi
 simp only[regIn,Tryz.f23,regOps,Option.bind_some,Option.getD_some,Nat.beq,cond_true,cond_false]
 refine wp_region_steps (fun done a w=>∃t105 t106 t107 t108 t109 t110 t111 t112 t113 t114,a=bt23A P5 k t105 t106 t107 t108 t109 t110 t111 t112 t113 t114 s0 s1 s2 s3 s4 s6 s7 s9 s10 s11 s12 s13 s14 s15 s16 s17 s18 s19 s20 s21 s22 s23 s24 s25 s26 s27 s28 s29 s30 s31 s32 s33 s34 s35 s36 s37 s38 s39 s40 s41 s42 s43 s44 s45 s46 s47 s48 s49 s50 s51 s52 s53 s54 s55 s56 s57 s58 s59 s60 s61 s62 s63 s64 s65 s66 s67 s68 s69 s70 s71 s72 s73 s74 s75 s76 s77 s78 s79 s80 s81 s82 s83 s84 s85 s86 s87 s88 s89 s90 s91 s92 s93 s94 s95 s96 s97 s98 s99 s100 s101 s102 s103 s104 s115 s116 s117 s118 s119 s120 s121 s122 s123 s124 s125 s126 s127 s128 s129 s130 s131 s132 s133 s134 s135 s136 s137 s138 s139 s140 s141 s142 s143 s144 s145 s146 s147 s148 s149 s150 s151 s152 s153 s154 s155 s156 s157 s158 s159 s160 s161 s162 s163 s164 s165 s166 s167 s168 s169 s170 s171 s172∧bt23F wr w0 b len P4 P5 g m c k ms hk t105 t106 t107 t108 t109 t110 t111 t112 t113 t114 done w) (by kernel_rfl) (by kernel_rfl) ?_ ⟨?_,?_,?_,?_,?_,?_,?_,?_,?_,?_,?_,trivial⟩ ?_
 ·exact⟨s105,s106,s107,s108,s109,s110,s111,s112,s113,s114,rfl,⟨fun _=>HBI.down.r5.gr (Gr.refl _).drew,fun _=>HBI.down.gr (Gr.refl _).drew⟩,fun q=>absurd q (by decide),fun q=>absurd q (by decide),fun q=>absurd q (by decide),fun q=>absurd q (by decide),fun q=>absurd q (by decide),fun q=>absurd q (by decide),fun q=>absurd q (by decide),fun q=>absurd q (by decide),fun q=>absurd q (by decide),fun q=>absurd q (by decide),fun q=>absurd q (by decide)⟩
 ·rintro done a w hsz hnot hdep ⟨t105,t106,t107,t108,t109,t110,t111,t112,t113,t114,rfl,gw,f0,f1,f2,f3,f4,f5,f6,f7,f8,f9,f10⟩ K hK
  have hn:¬done.getD 0 false=true:=by rw[getD_both hnot];decide
  have nL:done.getD 10 false=false:=by
   cases e:done.getD 10 false with
   |false=>rfl
   |true=>exact absurd ((f10 e).1 0 (by decide)) hn
  have R5:=gw.1 nL
  have x0:=R5.cell 0 (by simp)
  simp only[List.getElem_cons_zero] at x0
  have ch:=has_of_cell x0
  have HK:=PLift.up hK
  clear hK
  simp only[bt23A]
  go_simp
  refine HK.down _ _ ⟨_,_,_,_,_,_,_,_,_,_,rfl,⟨fun q=>gw.1 (by rw[getD_set_ne false (by decide)] at q;exact q),fun q=>gw.2 (by rw[getD_set_ne false (by decide)] at q;exact q)⟩,fun _=>rfl,kp f1,kp f2,kp f3,kp f4,kp f5,kp f6,fun q=>(let⟨B,e,h6,h2⟩:=f7 (done_old q (by decide));⟨B,e,getD_set_true h6,fun q2=>h2 (by rw[getD_set_ne false (by decide)] at q2;exact q2)⟩),fun q=>⟨fun j hj=>getD_set_true ((f8 (done_old q (by decide))).1 j hj),fun q2=>(f8 (done_old q (by decide))).2 (by rw[getD_set_ne false (by decide)] at q2;exact q2)⟩,kp f9,fun q=>absurd ((f10 (done_old q (by decide))).1 0 (by decide)) hn⟩
 ·rintro done a w hsz hnot hdep ⟨t105,t106,t107,t108,t109,t110,t111,t112,t113,t114,rfl,gw,f0,f1,f2,f3,f4,f5,f6,f7,f8,f9,f10⟩ K hK
  have hn:¬done.getD 1 false=true:=by rw[getD_both hnot];decide
  have d0:=hdep 0 (by kernel_rfl)
  obtain rfl:=f0 d0
  have nL:done.getD 10 false=false:=by
   cases e:done.getD 10 false with
   |false=>rfl
   |true=>exact absurd ((f10 e).1 1 (by decide)) hn
  have R5:=gw.1 nL
  have x0:=R5.cell 0 (by simp)
  simp only[List.getElem_cons_zero] at x0
  have ch:=has_of_cell x0
  have HK:=PLift.up hK
  clear hK d0
  simp only[bt23A]
  go_simp
  refine HK.down _ _ ⟨_,_,_,_,_,_,_,_,_,_,rfl,⟨fun q=>gw.1 (by rw[getD_set_ne false (by decide)] at q;exact q),fun q=>gw.2 (by rw[getD_set_ne false (by decide)] at q;exact q)⟩,kp f0,fun _=>rfl,kp f2,kp f3,kp f4,kp f5,kp f6,fun q=>(let⟨B,e,h6,h2⟩:=f7 (done_old q (by decide));⟨B,e,getD_set_true h6,fun q2=>h2 (by rw[getD_set_ne false (by decide)] at q2;exact q2)⟩),fun q=>absurd ((f8 (done_old q (by decide))).1 1 (by decide)) hn,kp f9,fun q=>absurd ((f10 (done_old q (by decide))).1 1 (by decide)) hn⟩
 ·rintro done a w hsz hnot hdep ⟨t105,t106,t107,t108,t109,t110,t111,t112,t113,t114,rfl,gw,f0,f1,f2,f3,f4,f5,f6,f7,f8,f9,f10⟩ K hK
  have hn:¬done.getD 2 false=true:=by rw[getD_both hnot];decide
  have nL:done.getD 10 false=false:=by
   cases e:done.getD 10 false with
   |false=>rfl
   |true=>exact absurd ((f10 e).1 2 (by decide)) hn
  have R5:=gw.1 nL
  have x0:=R5.cell 0 (by simp)
  simp only[List.getElem_cons_zero] at x0
  have ch:=has_of_cell x0
  have HK:=PLift.up hK
  clear hK
  simp only[bt23A]
  go_simp
  refine HK.down _ _ ⟨_,_,_,_,_,_,_,_,_,_,rfl,⟨fun q=>gw.1 (by rw[getD_set_ne false (by decide)] at q;exact q),fun q=>gw.2 (by rw[getD_set_ne false (by decide)] at q;exact q)⟩,kp f0,kp f1,fun _=>rfl,kp f3,kp f4,kp f5,kp f6,fun q=>(let⟨B,e,h6,h2⟩:=f7 (done_old q (by decide));⟨B,e,getD_set_true h6,fun q2=>h2 (by rw[getD_set_ne false (by decide)] at q2;exact q2)⟩),fun q=>⟨fun j hj=>getD_set_true ((f8 (done_old q (by decide))).1 j hj),fun q2=>(f8 (done_old q (by decide))).2 (by rw[getD_set_ne false (by decide)] at q2;exact q2)⟩,kp f9,fun q=>absurd ((f10 (done_old q (by decide))).1 2 (by decide)) hn⟩
 ·rintro done a w hsz hnot hdep ⟨t105,t106,t107,t108,t109,t110,t111,t112,t113,t114,rfl,gw,f0,f1,f2,f3,f4,f5,f6,f7,f8,f9,f10⟩ K hK
  have hn:¬done.getD 3 false=true:=by rw[getD_both hnot];decide
  have d2:=hdep 2 (by kernel_rfl)
  obtain rfl:=f2 d2
  have nL:done.getD 10 false=false:=by
   cases e:done.getD 10 false with
   |false=>rfl
   |true=>exact absurd ((f10 e).1 3 (by decide)) hn
  have R5:=gw.1 nL
  have x0:=R5.cell 0 (by simp)
  simp only[List.getElem_cons_zero] at x0
  have ch:=has_of_cell x0
  have HK:=PLift.up hK
  clear hK d2
  simp only[bt23A]
  go_simp
  refine HK.down _ _ ⟨_,_,_,_,_,_,_,_,_,_,rfl,⟨fun q=>gw.1 (by rw[getD_set_ne false (by decide)] at q;exact q),fun q=>gw.2 (by rw[getD_set_ne false (by decide)] at q;exact q)⟩,kp f0,kp f1,kp f2,fun _=>rfl,kp f4,kp f5,kp f6,fun q=>(let⟨B,e,h6,h2⟩:=f7 (done_old q (by decide));⟨B,e,getD_set_true h6,fun q2=>h2 (by rw[getD_set_ne false (by decide)] at q2;exact q2)⟩),fun q=>⟨fun j hj=>getD_set_true ((f8 (done_old q (by decide))).1 j hj),fun q2=>(f8 (done_old q (by decide))).2 (by rw[getD_set_ne false (by decide)] at q2;exact q2)⟩,kp f9,fun q=>absurd ((f10 (done_old q (by decide))).1 3 (by decide)) hn⟩
 ·rintro done a w hsz hnot hdep ⟨t105,t106,t107,t108,t109,t110,t111,t112,t113,t114,rfl,gw,f0,f1,f2,f3,f4,f5,f6,f7,f8,f9,f10⟩ K hK
  have hn:¬done.getD 4 false=true:=by rw[getD_both hnot];decide
  have HK:=PLift.up hK
  clear hK
  simp only[bt23A]
  go_simp
  refine HK.down _ _ ⟨_,_,_,_,_,_,_,_,_,_,rfl,⟨fun q=>gw.1 (by rw[getD_set_ne false (by decide)] at q;exact q),fun q=>gw.2 (by rw[getD_set_ne false (by decide)] at q;exact q)⟩,kp f0,kp f1,kp f2,kp f3,fun _=>rfl,kp f5,kp f6,fun q=>(let⟨B,e,h6,h2⟩:=f7 (done_old q (by decide));⟨B,e,getD_set_true h6,fun q2=>h2 (by rw[getD_set_ne false (by decide)] at q2;exact q2)⟩),fun q=>⟨fun j hj=>getD_set_true ((f8 (done_old q (by decide))).1 j hj),fun q2=>(f8 (done_old q (by decide))).2 (by rw[getD_set_ne false (by decide)] at q2;exact q2)⟩,kp f9,fun q=>absurd ((f10 (done_old q (by decide))).1 4 (by decide)) hn⟩
 ·rintro done a w hsz hnot hdep ⟨t105,t106,t107,t108,t109,t110,t111,t112,t113,t114,rfl,gw,f0,f1,f2,f3,f4,f5,f6,f7,f8,f9,f10⟩ K hK
  have hn:¬done.getD 5 false=true:=by rw[getD_both hnot];decide
  have d3:=hdep 3 (by kernel_rfl)
  have d4:=hdep 4 (by kernel_rfl)
  obtain rfl:=f3 d3
  obtain rfl:=f4 d4
  have k1:=HKM.down
  have k2:(k:Int)<m:=by omega
  have HK:=PLift.up hK
  clear hK d3 d4
  simp only[bt23A]
  go_simp
  refine HK.down _ _ ⟨_,_,_,_,_,_,_,_,_,_,rfl,⟨fun q=>gw.1 (by rw[getD_set_ne false (by decide)] at q;exact q),fun q=>gw.2 (by rw[getD_set_ne false (by decide)] at q;exact q)⟩,kp f0,kp f1,kp f2,kp f3,kp f4,fun _=>rfl,kp f6,fun q=>(let⟨B,e,h6,h2⟩:=f7 (done_old q (by decide));⟨B,e,getD_set_true h6,fun q2=>h2 (by rw[getD_set_ne false (by decide)] at q2;exact q2)⟩),fun q=>⟨fun j hj=>getD_set_true ((f8 (done_old q (by decide))).1 j hj),fun q2=>(f8 (done_old q (by decide))).2 (by rw[getD_set_ne false (by decide)] at q2;exact q2)⟩,kp f9,fun q=>absurd ((f10 (done_old q (by decide))).1 5 (by decide)) hn⟩
 ·rintro done a w hsz hnot hdep ⟨t105,t106,t107,t108,t109,t110,t111,t112,t113,t114,rfl,gw,f0,f1,f2,f3,f4,f5,f6,f7,f8,f9,f10⟩ K hK
  have hn:¬done.getD 6 false=true:=by rw[getD_both hnot];decide
  have d5:=hdep 5 (by kernel_rfl)
  obtain rfl:=f5 d5
  have nA:done.getD 8 false=false:=by
   cases e:done.getD 8 false with
   |false=>rfl
   |true=>exact absurd ((f8 e).1 6 (by decide)) hn
  have HB:=PLift.up (gw.2 nA)
  obtain⟨c0,c1,c2,cf,_⟩:=HB.down.at hk
  have ch:=has_of_cell c0
  have HK:=PLift.up hK
  clear hK d5
  simp only[bt23A]
  go_simp
  refine HK.down _ _ ⟨_,_,_,_,_,_,_,_,_,_,rfl,⟨fun q=>gw.1 (by rw[getD_set_ne false (by decide)] at q;exact q),fun q=>gw.2 (by rw[getD_set_ne false (by decide)] at q;exact q)⟩,kp f0,kp f1,kp f2,kp f3,kp f4,kp f5,fun _=>rfl,fun q=>absurd (let⟨B,e,h6,h2⟩:=f7 (done_old q (by decide));h6) hn,fun q=>absurd ((f8 (done_old q (by decide))).1 6 (by decide)) hn,kp f9,fun q=>absurd ((f10 (done_old q (by decide))).1 6 (by decide)) hn⟩
 ·rintro done a w hsz hnot hdep ⟨t105,t106,t107,t108,t109,t110,t111,t112,t113,t114,rfl,gw,f0,f1,f2,f3,f4,f5,f6,f7,f8,f9,f10⟩ K hK
  have hn:¬done.getD 7 false=true:=by rw[getD_both hnot];decide
  have d6:=hdep 6 (by kernel_rfl)
  obtain rfl:=f6 d6
  have nA:done.getD 8 false=false:=by
   cases e:done.getD 8 false with
   |false=>rfl
   |true=>exact absurd ((f8 e).1 7 (by decide)) hn
  have HB:=PLift.up (gw.2 nA)
  have D6:=PLift.up d6
  have HK:=PLift.up hK
  clear hK d6
  simp only[bt23A]
  go_simp
  refine HK.down _ _ ⟨_,_,_,_,_,_,_,_,_,_,rfl,⟨fun q=>(gw.1 (by rw[getD_set_ne false (by decide)] at q;exact q)).gr ((Gr.refl _).alloc _),fun _=>HB.down.gr ((Gr.refl _).alloc _)⟩,kp f0,kp f1,kp f2,kp f3,kp f4,kp f5,kp f6,?_,fun q=>absurd ((f8 (done_old q (by decide))).1 7 (by decide)) hn,kp f9,fun q=>absurd ((f10 (done_old q (by decide))).1 7 (by decide)) hn⟩
  exact fun _=>⟨_,rfl,getD_set_true D6.down,fun _=>Row.new w #[.int .i64 (ms[k]'hk).n.parent,.string (bs (ms[k]'hk).n.name),.slice (ms[k]'hk).a (ms[k]'hk).n.props.length (ms[k]'hk).c] _⟩
 ·rintro done a w hsz hnot hdep ⟨t105,t106,t107,t108,t109,t110,t111,t112,t113,t114,rfl,gw,f0,f1,f2,f3,f4,f5,f6,f7,f8,f9,f10⟩ K hK
  have hn:¬done.getD 8 false=true:=by rw[getD_both hnot];decide
  have d1:=hdep 1 (by kernel_rfl)
  have d7:=hdep 7 (by kernel_rfl)
  obtain rfl:=f1 d1
  have nA:=getD_both hnot
  have HB:=gw.2 nA
  obtain⟨B,rfl,d6,hB⟩:=f7 d7
  have rB:=hB nA
  have SZ:=HB.mv.size
  have ML:=HB.ml
  have M1:=HB.m1
  have OT:=HB.tr.own
  rw[ML] at OT
  refine step_append_gets _ rfl _ _ 29 rfl w0.heap.size 55 j0 (.agg #[.int .i64 0,.string (bs []),.slice none 0 0]) 3 48 Tryz.underlying29 hj hy0 hy1 hy2 rfl (by decide) (.slice (some ⟨g,0,none⟩) m c) m (ms.flatMap NM.enc) (by simp[Act.eval,bt23A]) OT (some ⟨B,0,none⟩) 1 1 ((ms[k]'hk).enc) (by simp[Act.eval,bt23A]) ⟨rfl,fun _=>⟨_,rfl,row_cells rB⟩⟩ (NM.enc_one _) (by unfold maxLen;omega) (by omega) SZ ?_
  intro v w2 hown hgrow _
  obtain⟨va,vc,rfl⟩:=owns_slice hown
  have BB:=HB.nod hk hgrow (by rw[ML];exact hown)
  refine hK _ _ ⟨_,_,_,_,_,_,_,_,_,_,rfl,⟨fun _=>BB.r5,fun q=>absurd q (by rw[getD_set_same (by rw[hsz];decide)];decide)⟩,kp f0,kp f1,kp f2,kp f3,kp f4,kp f5,kp f6,fun q=>(let⟨B,e,h6,h2⟩:=f7 (done_old q (by decide));⟨B,e,getD_set_true h6,fun q2=>absurd q2 (by rw[getD_set_same (by rw[hsz];decide)];decide)⟩),?_,kp f9,fun q=>absurd ((f10 (done_old q (by decide))).1 8 (by decide)) hn⟩
  exact fun _=>⟨fun j hj=>getD_set_true (by rcases hj with rfl|rfl|rfl<;>first|exact d1|exact d6|exact d7),fun _=>⟨_,_,_,rfl,BB⟩⟩
 ·rintro done a w hsz hnot hdep ⟨t105,t106,t107,t108,t109,t110,t111,t112,t113,t114,rfl,gw,f0,f1,f2,f3,f4,f5,f6,f7,f8,f9,f10⟩ K hK
  have hn:¬done.getD 9 false=true:=by rw[getD_both hnot];decide
  have d8:=hdep 8 (by kernel_rfl)
  obtain rfl:=f1 ((f8 d8).1 1 (by decide))
  obtain rfl:=f6 ((f8 d8).1 6 (by decide))
  have nL:done.getD 10 false=false:=by
   cases e:done.getD 10 false with
   |false=>rfl
   |true=>exact absurd ((f10 e).1 9 (by decide)) hn
  have R5:=gw.1 nL
  have x0:=R5.cell 0 (by simp)
  simp only[List.getElem_cons_zero] at x0
  have ch:=has_of_cell x0
  have HK:=PLift.up hK
  clear hK
  simp only[bt23A]
  go_simp
  refine HK.down _ _ ⟨_,_,_,_,_,_,_,_,_,_,rfl,⟨fun q=>gw.1 (by rw[getD_set_ne false (by decide)] at q;exact q),fun q=>gw.2 (by rw[getD_set_ne false (by decide)] at q;exact q)⟩,kp f0,fun _=>rfl,kp f2,kp f3,kp f4,kp f5,fun _=>rfl,fun q=>(let⟨B,e,h6,h2⟩:=f7 (done_old q (by decide));⟨B,e,getD_set_true h6,fun q2=>h2 (by rw[getD_set_ne false (by decide)] at q2;exact q2)⟩),fun q=>⟨fun j hj=>getD_set_true ((f8 (done_old q (by decide))).1 j hj),fun q2=>(f8 (done_old q (by decide))).2 (by rw[getD_set_ne false (by decide)] at q2;exact q2)⟩,fun _=>rfl,fun q=>absurd ((f10 (done_old q (by decide))).1 9 (by decide)) hn⟩
 ·rintro done a w hsz hnot hdep ⟨t105,t106,t107,t108,t109,t110,t111,t112,t113,t114,rfl,gw,f0,f1,f2,f3,f4,f5,f6,f7,f8,f9,f10⟩ K hK
  have hn:¬done.getD 10 false=true:=by rw[getD_both hnot];decide
  have d0:=hdep 0 (by kernel_rfl)
  have d1:=hdep 1 (by kernel_rfl)
  have d2:=hdep 2 (by kernel_rfl)
  have d3:=hdep 3 (by kernel_rfl)
  have d4:=hdep 4 (by kernel_rfl)
  have d5:=hdep 5 (by kernel_rfl)
  have d6:=hdep 6 (by kernel_rfl)
  have d7:=hdep 7 (by kernel_rfl)
  have d8:=hdep 8 (by kernel_rfl)
  have d9:=hdep 9 (by kernel_rfl)
  obtain rfl:=f0 d0
  obtain rfl:=f1 d1
  obtain rfl:=f2 d2
  obtain rfl:=f3 d3
  obtain rfl:=f4 d4
  obtain rfl:=f5 d5
  obtain rfl:=f6 d6
  obtain rfl:=f9 d9
  have nLL:=getD_both hnot
  obtain⟨va,vl,vc,rfl,hb⟩:=(f8 d8).2 nLL
  have R5:=hb.r5
  have x0:=R5.cell 0 (by simp)
  simp only[List.getElem_cons_zero] at x0
  have ch:=has_of_cell x0
  have cf:=R5.free 0
  have BF:=PLift.up hb.fin
  have DD:=PLift.up (show∀j,j<10→done.getD j false=true from by intro j hj;match j,hj with|0,_=>exact d0|1,_=>exact d1|2,_=>exact d2|3,_=>exact d3|4,_=>exact d4|5,_=>exact d5|6,_=>exact d6|7,_=>exact d7|8,_=>exact d8|9,_=>exact d9)
  have FA:=PLift.up (f8 d8).1
  clear hb R5
  have HK:=PLift.up hK
  clear hK d0 d1 d2 d3 d4 d5 d6 d9
  simp only[bt23A]
  go_simp
  refine HK.down _ _ ⟨_,_,_,_,_,_,_,_,_,_,rfl,⟨fun q=>absurd q (by rw[getD_set_same (by rw[hsz];decide)];decide),fun q=>absurd q (by rw[getD_set_ne false (by decide),DD.down 8 (by decide)];decide)⟩,kp f0,kp f1,kp f2,kp f3,kp f4,kp f5,kp f6,fun q=>(let⟨B,e,h6,h2⟩:=f7 (done_old q (by decide));⟨B,e,getD_set_true h6,fun q2=>absurd q2 (by rw[getD_set_ne false (by decide),DD.down 8 (by decide)];decide)⟩),fun q=>⟨fun j hj=>getD_set_true (FA.down j hj),fun q2=>absurd q2 (by rw[getD_set_same (by rw[hsz];decide)];decide)⟩,kp f9,?_⟩
  exact fun _=>⟨fun j hj=>getD_set_true (DD.down j hj),BF.down⟩
 ·rintro done a w hall ⟨t105,t106,t107,t108,t109,t110,t111,t112,t113,t114,rfl,gw,f0,f1,f2,f3,f4,f5,f6,f7,f8,f9,f10⟩
  exact h' _ _ _ _ _ _ _ _ _ _ w (f10 (hall 10 (by decide))).2
def bt28F(wr w0:World)(b len P4 P5 g m c k q z:Nat)(ms:List NM)(hk:k<ms.length)(t130 t131 t132 t133 t134 t135 t136 t137 t138 t139 t140 t141:Value)(d:Array Bool)(w:World):Prop:=
 (Has w g∧(d.getD 9 false=false→BI b len P4 P5 g m c w0 w ms∧Row w q 5 (List.replicate z (.int .u8 0))))∧(d.getD 0 false=true→t130= .pointer (some ⟨g,k*3,none⟩))∧
 (d.getD 1 false=true→t131= .pointer (some ⟨g,k*3,none⟩))∧
 (d.getD 2 false=true→t132= .pointer (some ⟨g,k*3,none⟩))∧
 (d.getD 3 false=true→t133= .pointer (some ⟨g,k*3+2,none⟩))∧
 (d.getD 4 false=true→t134= .slice (ms[k]'hk).a (ms[k]'hk).n.props.length (ms[k]'hk).c)∧
 (d.getD 5 false=true→t135= .slice (some ⟨q,0,none⟩) z z)∧
 (d.getD 6 false=true→(∃u:St,t136= .string (bs u)∧u.length≤100000))∧
 (d.getD 7 false=true→(∃s u:St,t137= .agg #[.string (bs s),.string (bs u)]∧(s.length≤1000∧u.length≤100000)∧d.getD 6 false=true))∧
 (d.getD 8 false=true→(∃s u B,t138= .slice (some ⟨B,0,none⟩) 1 1∧(s.length≤1000∧u.length≤100000)∧(d.getD 6 false=true)∧(d.getD 9 false=false→B≠b∧Row w B 89 (encP ⟨s,u⟩))))∧
 (d.getD 9 false=true→((∀j,(j=4∨j=6∨j=8)→d.getD j false=true)∧(d.getD 12 false=false→∃x cc ps,t139= .slice x ps.length cc∧BP b len P4 P5 g m c w0 w ms k x cc ps)))∧
 (d.getD 10 false=true→t140= .pointer (some ⟨g,k*3,none⟩))∧
 (d.getD 11 false=true→t141= .pointer (some ⟨g,k*3+2,none⟩))∧
 (d.getD 12 false=true→((∀j,j<12→j≠10→d.getD j false=true)∧BD b len P4 P5 w0 w))
def bt28A(g k q z:Nat)(t130 t131 t132 t133 t134 t135 t136 t137 t138 t139 t140 t141 s0 s1 s2 s3 s4 s5 s6 s7 s8 s11 s12 s13 s14 s15 s16 s17 s18 s19 s20 s21 s22 s23 s24 s25 s26 s27 s28 s29 s30 s31 s32 s33 s34 s35 s36 s37 s38 s39 s40 s41 s42 s43 s44 s45 s46 s47 s48 s49 s50 s51 s52 s53 s54 s55 s56 s57 s58 s59 s60 s61 s62 s63 s64 s65 s66 s67 s68 s69 s70 s71 s72 s73 s74 s75 s76 s77 s78 s79 s80 s81 s82 s83 s84 s85 s86 s87 s88 s89 s90 s91 s92 s93 s94 s95 s96 s97 s98 s99 s100 s101 s102 s103 s104 s105 s106 s107 s108 s109 s110 s111 s112 s113 s114 s115 s116 s117 s118 s119 s120 s121 s122 s123 s124 s125 s126 s127 s128 s129 s142 s143 s144 s145 s146 s147 s148 s149 s150 s151 s152 s153 s154 s155 s156 s157 s158 s159 s160 s161 s162 s163 s164 s165 s166 s167 s168 s169 s170 s171 s172:Value):Act:={tmps:= #[s0,s1,s2,s3,s4,s5,s6,s7,s8,.pointer (some ⟨g,k*3,none⟩),.slice (some ⟨q,0,none⟩) z z,s11,s12,s13,s14,s15,s16,s17,s18,s19,s20,s21,s22,s23,s24,s25,s26,s27,s28,s29,s30,s31,s32,s33,s34,s35,s36,s37,s38,s39,s40,s41,s42,s43,s44,s45,s46,s47,s48,s49,s50,s51,s52,s53,s54,s55,s56,s57,s58,s59,s60,s61,s62,s63,s64,s65,s66,s67,s68,s69,s70,s71,s72,s73,s74,s75,s76,s77,s78,s79,s80,s81,s82,s83,s84,s85,s86,s87,s88,s89,s90,s91,s92,s93,s94,s95,s96,s97,s98,s99,s100,s101,s102,s103,s104,s105,s106,s107,s108,s109,s110,s111,s112,s113,s114,s115,s116,s117,s118,s119,s120,s121,s122,s123,s124,s125,s126,s127,s128,s129,t130,t131,t132,t133,t134,t135,t136,t137,t138,t139,t140,t141,s142,s143,s144,s145,s146,s147,s148,s149,s150,s151,s152,s153,s154,s155,s156,s157,s158,s159,s160,s161,s162,s163,s164,s165,s166,s167,s168,s169,s170,s171,s172],defers:= []}
theorem bt28{Q:Exit→Act→World→Prop}{wr w0:World}{b len P4 P5 g m c k q z:Nat}{ms:List NM}{hk:k<ms.length}{s0 s1 s2 s3 s4 s5 s6 s7 s8 s11 s12 s13 s14 s15 s16 s17 s18 s19 s20 s21 s22 s23 s24 s25 s26 s27 s28 s29 s30 s31 s32 s33 s34 s35 s36 s37 s38 s39 s40 s41 s42 s43 s44 s45 s46 s47 s48 s49 s50 s51 s52 s53 s54 s55 s56 s57 s58 s59 s60 s61 s62 s63 s64 s65 s66 s67 s68 s69 s70 s71 s72 s73 s74 s75 s76 s77 s78 s79 s80 s81 s82 s83 s84 s85 s86 s87 s88 s89 s90 s91 s92 s93 s94 s95 s96 s97 s98 s99 s100 s101 s102 s103 s104 s105 s106 s107 s108 s109 s110 s111 s112 s113 s114 s115 s116 s117 s118 s119 s120 s121 s122 s123 s124 s125 s126 s127 s128 s129 s130 s131 s132 s133 s134 s135 s136 s137 s138 s139 s140 s141 s142 s143 s144 s145 s146 s147 s148 s149 s150 s151 s152 s153 s154 s155 s156 s157 s158 s159 s160 s161 s162 s163 s164 s165 s166 s167 s168 s169 s170 s171 s172:Value}(hbi:BI b len P4 P5 g m c w0 wr ms)(hz:z≤1000)(hq:Row wr q 5 (List.replicate z (.int .u8 0)))
  (h':∀t130 t131 t132 t133 t134 t135 t136 t137 t138 t139 t140 t141 wx,BD b len P4 P5 w0 wx→Q .normal (bt28A g k q z t130 t131 t132 t133 t134 t135 t136 t137 t138 t139 t140 t141 s0 s1 s2 s3 s4 s5 s6 s7 s8 s11 s12 s13 s14 s15 s16 s17 s18 s19 s20 s21 s22 s23 s24 s25 s26 s27 s28 s29 s30 s31 s32 s33 s34 s35 s36 s37 s38 s39 s40 s41 s42 s43 s44 s45 s46 s47 s48 s49 s50 s51 s52 s53 s54 s55 s56 s57 s58 s59 s60 s61 s62 s63 s64 s65 s66 s67 s68 s69 s70 s71 s72 s73 s74 s75 s76 s77 s78 s79 s80 s81 s82 s83 s84 s85 s86 s87 s88 s89 s90 s91 s92 s93 s94 s95 s96 s97 s98 s99 s100 s101 s102 s103 s104 s105 s106 s107 s108 s109 s110 s111 s112 s113 s114 s115 s116 s117 s118 s119 s120 s121 s122 s123 s124 s125 s126 s127 s128 s129 s142 s143 s144 s145 s146 s147 s148 s149 s150 s151 s152 s153 s154 s155 s156 s157 s158 s159 s160 s161 s162 s163 s164 s165 s166 s167 s168 s169 s170 s171 s172) wx):
  (Code.region 28 (regIn 28 Tryz.f23) true).wp Tryz.prog Q {tmps:= #[s0,s1,s2,s3,s4,s5,s6,s7,s8,.pointer (some ⟨g,k*3,none⟩),.slice (some ⟨q,0,none⟩) z z,s11,s12,s13,s14,s15,s16,s17,s18,s19,s20,s21,s22,s23,s24,s25,s26,s27,s28,s29,s30,s31,s32,s33,s34,s35,s36,s37,s38,s39,s40,s41,s42,s43,s44,s45,s46,s47,s48,s49,s50,s51,s52,s53,s54,s55,s56,s57,s58,s59,s60,s61,s62,s63,s64,s65,s66,s67,s68,s69,s70,s71,s72,s73,s74,s75,s76,s77,s78,s79,s80,s81,s82,s83,s84,s85,s86,s87,s88,s89,s90,s91,s92,s93,s94,s95,s96,s97,s98,s99,s100,s101,s102,s103,s104,s105,s106,s107,s108,s109,s110,s111,s112,s113,s114,s115,s116,s117,s118,s119,s120,s121,s122,s123,s124,s125,s126,s127,s128,s129,s130,s131,s132,s133,s134,s135,s136,s137,s138,s139,s140,s141,s142,s143,s144,s145,s146,s147,s148,s149,s150,s151,s152,s153,s154,s155,s156,s157,s158,s159,s160,s161,s162,s163,s164,s165,s166,s167,s168,s169,s170,s171,s172],defers:= []} wr:=by
 have HZ:=PLift.up hz
 have HQ:=PLift.up hq
 clear hz hq
 have HBI:=PLift.up hbi
 obtain⟨j0,hj,hy0,hy1,hy2⟩:=info_parts infoPrp
 clear hbi
 simp only[regIn,Tryz.f23,regOps,Option.bind_some,Option.getD_some,Nat.beq,cond_true,cond_false]
 refine wp_region_steps (fun done a w=>∃t130 t131 t132 t133 t134 t135 t136 t137 t138 t139 t140 t141,a=bt28A g k q z t130 t131 t132 t133 t134 t135 t136 t137 t138 t139 t140 t141 s0 s1 s2 s3 s4 s5 s6 s7 s8 s11 s12 s13 s14 s15 s16 s17 s18 s19 s20 s21 s22 s23 s24 s25 s26 s27 s28 s29 s30 s31 s32 s33 s34 s35 s36 s37 s38 s39 s40 s41 s42 s43 s44 s45 s46 s47 s48 s49 s50 s51 s52 s53 s54 s55 s56 s57 s58 s59 s60 s61 s62 s63 s64 s65 s66 s67 s68 s69 s70 s71 s72 s73 s74 s75 s76 s77 s78 s79 s80 s81 s82 s83 s84 s85 s86 s87 s88 s89 s90 s91 s92 s93 s94 s95 s96 s97 s98 s99 s100 s101 s102 s103 s104 s105 s106 s107 s108 s109 s110 s111 s112 s113 s114 s115 s116 s117 s118 s119 s120 s121 s122 s123 s124 s125 s126 s127 s128 s129 s142 s143 s144 s145 s146 s147 s148 s149 s150 s151 s152 s153 s154 s155 s156 s157 s158 s159 s160 s161 s162 s163 s164 s165 s166 s167 s168 s169 s170 s171 s172∧bt28F wr w0 b len P4 P5 g m c k q z ms hk t130 t131 t132 t133 t134 t135 t136 t137 t138 t139 t140 t141 done w) (by kernel_rfl) (by kernel_rfl) ?_ ⟨?_,?_,?_,?_,?_,?_,?_,?_,?_,?_,?_,?_,?_,trivial⟩ ?_
 ·exact⟨s130,s131,s132,s133,s134,s135,s136,s137,s138,s139,s140,s141,rfl,⟨by have:=(HBI.down.gr (Gr.refl _).drew).r5.has;exact(owns_block (HBI.down.gr (Gr.refl _).drew).tr.own g rfl).2,fun _=>⟨HBI.down.gr (Gr.refl _).drew,HQ.down.gr (Gr.refl _).drew⟩⟩,fun q=>absurd q (by decide),fun q=>absurd q (by decide),fun q=>absurd q (by decide),fun q=>absurd q (by decide),fun q=>absurd q (by decide),fun q=>absurd q (by decide),fun q=>absurd q (by decide),fun q=>absurd q (by decide),fun q=>absurd q (by decide),fun q=>absurd q (by decide),fun q=>absurd q (by decide),fun q=>absurd q (by decide),fun q=>absurd q (by decide)⟩
 ·rintro done a w hsz hnot hdep ⟨t130,t131,t132,t133,t134,t135,t136,t137,t138,t139,t140,t141,rfl,gw,f0,f1,f2,f3,f4,f5,f6,f7,f8,f9,f10,f11,f12⟩ K hK
  have hn:¬done.getD 0 false=true:=by rw[getD_both hnot];decide
  have HK:=PLift.up hK
  clear hK
  simp only[bt28A]
  go_simp
  refine HK.down _ _ ⟨_,_,_,_,_,_,_,_,_,_,_,_,rfl,⟨gw.1,fun q=>gw.2 (by rw[getD_set_ne false (by decide)] at q;exact q)⟩,fun _=>rfl,kp f1,kp f2,kp f3,kp f4,kp f5,kp f6,fun q=>(let⟨s,u,e1,e2,e3⟩:=f7 (done_old q (by decide));⟨s,u,e1,e2,getD_set_true e3⟩),fun q=>(let⟨s,u,B,e,h1,h2⟩:=f8 (done_old q (by decide));⟨s,u,B,e,h1,⟨getD_set_true h2.1,fun q2=>h2.2 (by rw[getD_set_ne false (by decide)] at q2;exact q2)⟩⟩),fun q=>⟨fun j hj=>getD_set_true ((f9 (done_old q (by decide))).1 j hj),fun q2=>(f9 (done_old q (by decide))).2 (by rw[getD_set_ne false (by decide)] at q2;exact q2)⟩,kp f10,kp f11,fun q=>absurd ((f12 (done_old q (by decide))).1 0 (by decide) (by decide)) hn⟩
 ·rintro done a w hsz hnot hdep ⟨t130,t131,t132,t133,t134,t135,t136,t137,t138,t139,t140,t141,rfl,gw,f0,f1,f2,f3,f4,f5,f6,f7,f8,f9,f10,f11,f12⟩ K hK
  have hn:¬done.getD 1 false=true:=by rw[getD_both hnot];decide
  have HK:=PLift.up hK
  clear hK
  simp only[bt28A]
  go_simp
  refine HK.down _ _ ⟨_,_,_,_,_,_,_,_,_,_,_,_,rfl,⟨gw.1,fun q=>gw.2 (by rw[getD_set_ne false (by decide)] at q;exact q)⟩,kp f0,fun _=>rfl,kp f2,kp f3,kp f4,kp f5,kp f6,fun q=>(let⟨s,u,e1,e2,e3⟩:=f7 (done_old q (by decide));⟨s,u,e1,e2,getD_set_true e3⟩),fun q=>(let⟨s,u,B,e,h1,h2⟩:=f8 (done_old q (by decide));⟨s,u,B,e,h1,⟨getD_set_true h2.1,fun q2=>h2.2 (by rw[getD_set_ne false (by decide)] at q2;exact q2)⟩⟩),fun q=>⟨fun j hj=>getD_set_true ((f9 (done_old q (by decide))).1 j hj),fun q2=>(f9 (done_old q (by decide))).2 (by rw[getD_set_ne false (by decide)] at q2;exact q2)⟩,kp f10,kp f11,fun q=>absurd ((f12 (done_old q (by decide))).1 1 (by decide) (by decide)) hn⟩
 ·rintro done a w hsz hnot hdep ⟨t130,t131,t132,t133,t134,t135,t136,t137,t138,t139,t140,t141,rfl,gw,f0,f1,f2,f3,f4,f5,f6,f7,f8,f9,f10,f11,f12⟩ K hK
  have hn:¬done.getD 2 false=true:=by rw[getD_both hnot];decide
  have d1:=hdep 1 (by kernel_rfl)
  obtain rfl:=f1 d1
  have ch:=gw.1
  have HK:=PLift.up hK
  clear hK d1
  simp only[bt28A]
  go_simp
  refine HK.down _ _ ⟨_,_,_,_,_,_,_,_,_,_,_,_,rfl,⟨gw.1,fun q=>gw.2 (by rw[getD_set_ne false (by decide)] at q;exact q)⟩,kp f0,kp f1,fun _=>rfl,kp f3,kp f4,kp f5,kp f6,fun q=>(let⟨s,u,e1,e2,e3⟩:=f7 (done_old q (by decide));⟨s,u,e1,e2,getD_set_true e3⟩),fun q=>(let⟨s,u,B,e,h1,h2⟩:=f8 (done_old q (by decide));⟨s,u,B,e,h1,⟨getD_set_true h2.1,fun q2=>h2.2 (by rw[getD_set_ne false (by decide)] at q2;exact q2)⟩⟩),fun q=>⟨fun j hj=>getD_set_true ((f9 (done_old q (by decide))).1 j hj),fun q2=>(f9 (done_old q (by decide))).2 (by rw[getD_set_ne false (by decide)] at q2;exact q2)⟩,kp f10,kp f11,fun q=>absurd ((f12 (done_old q (by decide))).1 2 (by decide) (by decide)) hn⟩
 ·rintro done a w hsz hnot hdep ⟨t130,t131,t132,t133,t134,t135,t136,t137,t138,t139,t140,t141,rfl,gw,f0,f1,f2,f3,f4,f5,f6,f7,f8,f9,f10,f11,f12⟩ K hK
  have hn:¬done.getD 3 false=true:=by rw[getD_both hnot];decide
  have d2:=hdep 2 (by kernel_rfl)
  obtain rfl:=f2 d2
  have ch:=gw.1
  have HK:=PLift.up hK
  clear hK d2
  simp only[bt28A]
  go_simp
  refine HK.down _ _ ⟨_,_,_,_,_,_,_,_,_,_,_,_,rfl,⟨gw.1,fun q=>gw.2 (by rw[getD_set_ne false (by decide)] at q;exact q)⟩,kp f0,kp f1,kp f2,fun _=>rfl,kp f4,kp f5,kp f6,fun q=>(let⟨s,u,e1,e2,e3⟩:=f7 (done_old q (by decide));⟨s,u,e1,e2,getD_set_true e3⟩),fun q=>(let⟨s,u,B,e,h1,h2⟩:=f8 (done_old q (by decide));⟨s,u,B,e,h1,⟨getD_set_true h2.1,fun q2=>h2.2 (by rw[getD_set_ne false (by decide)] at q2;exact q2)⟩⟩),fun q=>⟨fun j hj=>getD_set_true ((f9 (done_old q (by decide))).1 j hj),fun q2=>(f9 (done_old q (by decide))).2 (by rw[getD_set_ne false (by decide)] at q2;exact q2)⟩,kp f10,kp f11,fun q=>absurd ((f12 (done_old q (by decide))).1 3 (by decide) (by decide)) hn⟩
 ·rintro done a w hsz hnot hdep ⟨t130,t131,t132,t133,t134,t135,t136,t137,t138,t139,t140,t141,rfl,gw,f0,f1,f2,f3,f4,f5,f6,f7,f8,f9,f10,f11,f12⟩ K hK
  have hn:¬done.getD 4 false=true:=by rw[getD_both hnot];decide
  have d3:=hdep 3 (by kernel_rfl)
  obtain rfl:=f3 d3
  have nA:done.getD 9 false=false:=by
   cases e:done.getD 9 false with
   |false=>rfl
   |true=>exact absurd ((f9 e).1 4 (by decide)) hn
  have HB:=PLift.up ((gw.2 nA).1)
  have RQ:=PLift.up (gw.2 nA).2
  obtain⟨c0,c1,c2,cf,_⟩:=HB.down.at hk
  have ch:=has_of_cell c0
  have HK:=PLift.up hK
  clear hK d3
  simp only[bt28A]
  go_simp
  refine HK.down _ _ ⟨_,_,_,_,_,_,_,_,_,_,_,_,rfl,⟨gw.1,fun q=>gw.2 (by rw[getD_set_ne false (by decide)] at q;exact q)⟩,kp f0,kp f1,kp f2,kp f3,fun _=>rfl,kp f5,kp f6,fun q=>(let⟨s,u,e1,e2,e3⟩:=f7 (done_old q (by decide));⟨s,u,e1,e2,getD_set_true e3⟩),fun q=>(let⟨s,u,B,e,h1,h2⟩:=f8 (done_old q (by decide));⟨s,u,B,e,h1,⟨getD_set_true h2.1,fun q2=>h2.2 (by rw[getD_set_ne false (by decide)] at q2;exact q2)⟩⟩),fun q=>absurd ((f9 (done_old q (by decide))).1 4 (by decide)) hn,kp f10,kp f11,fun q=>absurd ((f12 (done_old q (by decide))).1 4 (by decide) (by decide)) hn⟩
 ·rintro done a w hsz hnot hdep ⟨t130,t131,t132,t133,t134,t135,t136,t137,t138,t139,t140,t141,rfl,gw,f0,f1,f2,f3,f4,f5,f6,f7,f8,f9,f10,f11,f12⟩ K hK
  have hn:¬done.getD 5 false=true:=by rw[getD_both hnot];decide
  have HK:=PLift.up hK
  clear hK
  simp only[bt28A]
  go_simp
  refine HK.down _ _ ⟨_,_,_,_,_,_,_,_,_,_,_,_,rfl,⟨gw.1,fun q=>gw.2 (by rw[getD_set_ne false (by decide)] at q;exact q)⟩,kp f0,kp f1,kp f2,kp f3,kp f4,fun _=>rfl,kp f6,fun q=>(let⟨s,u,e1,e2,e3⟩:=f7 (done_old q (by decide));⟨s,u,e1,e2,getD_set_true e3⟩),fun q=>(let⟨s,u,B,e,h1,h2⟩:=f8 (done_old q (by decide));⟨s,u,B,e,h1,⟨getD_set_true h2.1,fun q2=>h2.2 (by rw[getD_set_ne false (by decide)] at q2;exact q2)⟩⟩),fun q=>⟨fun j hj=>getD_set_true ((f9 (done_old q (by decide))).1 j hj),fun q2=>(f9 (done_old q (by decide))).2 (by rw[getD_set_ne false (by decide)] at q2;exact q2)⟩,kp f10,kp f11,fun q=>absurd ((f12 (done_old q (by decide))).1 5 (by decide) (by decide)) hn⟩
 ·rintro done a w hsz hnot hdep ⟨t130,t131,t132,t133,t134,t135,t136,t137,t138,t139,t140,t141,rfl,gw,f0,f1,f2,f3,f4,f5,f6,f7,f8,f9,f10,f11,f12⟩ K hK
  have hn:¬done.getD 6 false=true:=by rw[getD_both hnot];decide
  have d5:=hdep 5 (by kernel_rfl)
  obtain rfl:=f5 d5
  have nA:done.getD 9 false=false:=by
   cases e:done.getD 9 false with
   |false=>rfl
   |true=>exact absurd ((f9 e).1 6 (by decide)) hn
  have HB:=PLift.up ((gw.2 nA).1)
  have RQ:=PLift.up (gw.2 nA).2
  have hcv:=run_convert_bytes_arg (P:=Tryz.prog) w 112 5 Tryz.underlying112 Tryz.underlying5 q 0 z z (List.replicate z 0) (by simp) (fun i hi=>by rw[Nat.zero_add,RQ.down.cell i (by simpa using hi)];simp[hi]) 9 Tryz.underlying9
  obtain⟨u,hu,hul⟩:∃u:St,strOfNums (List.replicate z 0)=bs u∧u.length≤100000:=⟨(strOfNums (List.replicate z 0)).data.toList,by unfold bs;simp,by have:=HZ.down;simp[strOfNums];omega⟩
  rw[hu] at hcv
  have UL:=PLift.up hul
  clear hul hu
  have HK:=PLift.up hK
  clear hK d5
  simp only[bt28A]
  go_simp
  refine HK.down _ _ ⟨_,_,_,_,_,_,_,_,_,_,_,_,rfl,⟨gw.1,fun q=>gw.2 (by rw[getD_set_ne false (by decide)] at q;exact q)⟩,kp f0,kp f1,kp f2,kp f3,kp f4,kp f5,?_,fun q=>absurd (let⟨s,u,e1,e2,e3⟩:=f7 (done_old q (by decide));e3) hn,fun q=>absurd (let⟨s,u,B,e,h1,h2⟩:=f8 (done_old q (by decide));h2.1) hn,fun q=>absurd ((f9 (done_old q (by decide))).1 6 (by decide)) hn,kp f10,kp f11,fun q=>absurd ((f12 (done_old q (by decide))).1 6 (by decide) (by decide)) hn⟩
  exact fun _=>⟨u,rfl,UL.down⟩
 ·rintro done a w hsz hnot hdep ⟨t130,t131,t132,t133,t134,t135,t136,t137,t138,t139,t140,t141,rfl,gw,f0,f1,f2,f3,f4,f5,f6,f7,f8,f9,f10,f11,f12⟩ K hK
  have hn:¬done.getD 7 false=true:=by rw[getD_both hnot];decide
  have d6:=hdep 6 (by kernel_rfl)
  obtain⟨u,rfl,hs⟩:=f6 d6
  have HS:=PLift.up hs
  clear hs
  have HK:=PLift.up hK
  clear hK
  simp only[bt28A]
  go_simp
  refine HK.down _ _ ⟨_,_,_,_,_,_,_,_,_,_,_,_,rfl,⟨gw.1,fun q=>gw.2 (by rw[getD_set_ne false (by decide)] at q;exact q)⟩,kp f0,kp f1,kp f2,kp f3,kp f4,kp f5,fun _=>⟨u,rfl,HS.down⟩,?_,fun q=>(let⟨s,u,B,e,h1,h2⟩:=f8 (done_old q (by decide));⟨s,u,B,e,h1,⟨getD_set_true h2.1,fun q2=>h2.2 (by rw[getD_set_ne false (by decide)] at q2;exact q2)⟩⟩),fun q=>⟨fun j hj=>getD_set_true ((f9 (done_old q (by decide))).1 j hj),fun q2=>(f9 (done_old q (by decide))).2 (by rw[getD_set_ne false (by decide)] at q2;exact q2)⟩,kp f10,kp f11,fun q=>absurd ((f12 (done_old q (by decide))).1 7 (by decide) (by decide)) hn⟩
  exact fun _=>⟨[122,122],u,rfl,⟨by simp,HS.down⟩,getD_set_true d6⟩
 ·rintro done a w hsz hnot hdep ⟨t130,t131,t132,t133,t134,t135,t136,t137,t138,t139,t140,t141,rfl,gw,f0,f1,f2,f3,f4,f5,f6,f7,f8,f9,f10,f11,f12⟩ K hK
  have hn:¬done.getD 8 false=true:=by rw[getD_both hnot];decide
  have d7:=hdep 7 (by kernel_rfl)
  have nA:done.getD 9 false=false:=by
   cases e:done.getD 9 false with
   |false=>rfl
   |true=>exact absurd ((f9 e).1 8 (by decide)) hn
  have HB:=PLift.up ((gw.2 nA).1)
  have RQ:=PLift.up (gw.2 nA).2
  obtain⟨s,u,rfl,hs,h6⟩:=f7 d7
  have HS:=PLift.up hs
  clear hs
  have HNE:=PLift.up (show w.heap.size≠b by have:=HB.down.tp.has;unfold Has at this;omega)
  have HK:=PLift.up hK
  clear hK
  simp only[bt28A]
  go_simp
  refine HK.down _ _ ⟨_,_,_,_,_,_,_,_,_,_,_,_,rfl,⟨by have:=gw.1;unfold Has at this ⊢;simp;omega,fun _=>⟨HB.down.gr ((Gr.refl _).alloc _),RQ.down.gr ((Gr.refl _).alloc _)⟩⟩,kp f0,kp f1,kp f2,kp f3,kp f4,kp f5,kp f6,fun _=>⟨s,u,rfl,HS.down,getD_set_true h6⟩,?_,fun q=>absurd ((f9 (done_old q (by decide))).1 8 (by decide)) hn,kp f10,kp f11,fun q=>absurd ((f12 (done_old q (by decide))).1 8 (by decide) (by decide)) hn⟩
  exact fun _=>⟨s,u,_,rfl,HS.down,⟨getD_set_true h6,fun _=>⟨HNE.down,Row.new w #[.string (bs s),.string (bs u)] _⟩⟩⟩
 ·rintro done a w hsz hnot hdep ⟨t130,t131,t132,t133,t134,t135,t136,t137,t138,t139,t140,t141,rfl,gw,f0,f1,f2,f3,f4,f5,f6,f7,f8,f9,f10,f11,f12⟩ K hK
  have hn:¬done.getD 9 false=true:=by rw[getD_both hnot];decide
  have d4:=hdep 4 (by kernel_rfl)
  have d8:=hdep 8 (by kernel_rfl)
  obtain rfl:=f4 d4
  have nA:=getD_both hnot
  have HB:=(gw.2 nA).1
  obtain⟨s,u,B,rfl,hs,hB⟩:=f8 d8
  have d6:=hB.1
  obtain⟨hBb,rB⟩:=hB.2 nA
  have ND:=(HB.at hk).2.2.2.2
  have SM:=HB.sm _ (List.getElem_mem hk)
  have SN:=ND.sm.prp
  have SZ:=HB.mv.size
  refine step_append_gets _ rfl _ _ 53 rfl w0.heap.size 89 j0 (.agg #[.string (bs []),.string (bs [])]) 2 32 Tryz.underlying53 hj hy0 hy1 hy2 rfl (by decide) (.slice (ms[k]'hk).a (ms[k]'hk).n.props.length (ms[k]'hk).c) (ms[k]'hk).n.props.length ((ms[k]'hk).n.props.flatMap encP) (by simp[Act.eval,bt28A]) ND.own (some ⟨B,0,none⟩) 1 1 (encP ⟨s,u⟩) (by simp[Act.eval,bt28A]) ⟨rfl,fun _=>⟨_,rfl,row_cells rB⟩⟩ (by intro v hv;simp only[encP,List.mem_cons,List.not_mem_nil,or_false] at hv;rcases hv with q|q<;>subst q<;>rfl) (by unfold maxLen;omega) (by omega) SZ ?_
  intro v w2 hown hgrow _
  obtain⟨x,cc,rfl⟩:=owns_slice hown
  have BB:=HB.app (x:=x) (cc:=cc) (ps:=(ms[k]'hk).n.props++ [⟨s,u⟩]) hk hgrow (by rw[List.length_append,List.flatMap_append,List.flatMap_cons,List.flatMap_nil,List.append_nil];exact hown) ⟨by rw[List.length_append];simp;omega,fun p hp=>by rcases List.mem_append.1 hp with hp|hp;exact SN p hp;rw[List.mem_singleton.1 hp];exact hs⟩
  refine hK _ _ ⟨_,_,_,_,_,_,_,_,_,_,_,_,rfl,⟨(owns_block BB.own g rfl).2,fun q=>absurd q (by rw[getD_set_same (by rw[hsz];decide)];decide)⟩,kp f0,kp f1,kp f2,kp f3,kp f4,kp f5,kp f6,fun q=>(let⟨s,u,e1,e2,e3⟩:=f7 (done_old q (by decide));⟨s,u,e1,e2,getD_set_true e3⟩),fun q=>(let⟨s,u,B,e,h1,h2⟩:=f8 (done_old q (by decide));⟨s,u,B,e,h1,⟨getD_set_true h2.1,fun q2=>absurd q2 (by rw[getD_set_same (by rw[hsz];decide)];decide)⟩⟩),?_,kp f10,kp f11,fun q=>absurd ((f12 (done_old q (by decide))).1 9 (by decide) (by decide)) hn⟩
  exact fun _=>⟨fun j hj=>getD_set_true (by rcases hj with rfl|rfl|rfl<;>first|exact d4|exact d6|exact d8),fun _=>⟨x,cc,_,by rw[List.length_append];rfl,BB⟩⟩
 ·rintro done a w hsz hnot hdep ⟨t130,t131,t132,t133,t134,t135,t136,t137,t138,t139,t140,t141,rfl,gw,f0,f1,f2,f3,f4,f5,f6,f7,f8,f9,f10,f11,f12⟩ K hK
  have hn:¬done.getD 10 false=true:=by rw[getD_both hnot];decide
  have d0:=hdep 0 (by kernel_rfl)
  have d9:=hdep 9 (by kernel_rfl)
  obtain rfl:=f0 d0
  obtain rfl:=f4 ((f9 d9).1 4 (by decide))
  have ch:=gw.1
  have HK:=PLift.up hK
  clear hK d0
  simp only[bt28A]
  go_simp
  refine HK.down _ _ ⟨_,_,_,_,_,_,_,_,_,_,_,_,rfl,⟨gw.1,fun q=>gw.2 (by rw[getD_set_ne false (by decide)] at q;exact q)⟩,kp f0,kp f1,kp f2,kp f3,fun _=>rfl,kp f5,kp f6,fun q=>(let⟨s,u,e1,e2,e3⟩:=f7 (done_old q (by decide));⟨s,u,e1,e2,getD_set_true e3⟩),fun q=>(let⟨s,u,B,e,h1,h2⟩:=f8 (done_old q (by decide));⟨s,u,B,e,h1,⟨getD_set_true h2.1,fun q2=>h2.2 (by rw[getD_set_ne false (by decide)] at q2;exact q2)⟩⟩),fun _=>⟨fun j hj=>getD_set_true ((f9 d9).1 j hj),fun q2=>(f9 d9).2 (by rw[getD_set_ne false (by decide)] at q2;exact q2)⟩,fun _=>rfl,kp f11,fun q=>⟨fun j hj hne=>getD_set_true ((f12 (done_old q (by decide))).1 j hj hne),(f12 (done_old q (by decide))).2⟩⟩
 ·rintro done a w hsz hnot hdep ⟨t130,t131,t132,t133,t134,t135,t136,t137,t138,t139,t140,t141,rfl,gw,f0,f1,f2,f3,f4,f5,f6,f7,f8,f9,f10,f11,f12⟩ K hK
  have hn:¬done.getD 11 false=true:=by rw[getD_both hnot];decide
  have d10:=hdep 10 (by kernel_rfl)
  have d9:=hdep 9 (by kernel_rfl)
  obtain rfl:=f10 d10
  obtain rfl:=f4 ((f9 d9).1 4 (by decide))
  have ch:=gw.1
  have HK:=PLift.up hK
  clear hK d10
  simp only[bt28A]
  go_simp
  refine HK.down _ _ ⟨_,_,_,_,_,_,_,_,_,_,_,_,rfl,⟨gw.1,fun q=>gw.2 (by rw[getD_set_ne false (by decide)] at q;exact q)⟩,kp f0,kp f1,kp f2,kp f3,fun _=>rfl,kp f5,kp f6,fun q=>(let⟨s,u,e1,e2,e3⟩:=f7 (done_old q (by decide));⟨s,u,e1,e2,getD_set_true e3⟩),fun q=>(let⟨s,u,B,e,h1,h2⟩:=f8 (done_old q (by decide));⟨s,u,B,e,h1,⟨getD_set_true h2.1,fun q2=>h2.2 (by rw[getD_set_ne false (by decide)] at q2;exact q2)⟩⟩),fun _=>⟨fun j hj=>getD_set_true ((f9 d9).1 j hj),fun q2=>(f9 d9).2 (by rw[getD_set_ne false (by decide)] at q2;exact q2)⟩,kp f10,fun _=>rfl,fun q=>absurd ((f12 (done_old q (by decide))).1 11 (by decide) (by decide)) hn⟩
 ·rintro done a w hsz hnot hdep ⟨t130,t131,t132,t133,t134,t135,t136,t137,t138,t139,t140,t141,rfl,gw,f0,f1,f2,f3,f4,f5,f6,f7,f8,f9,f10,f11,f12⟩ K hK
  have hn:¬done.getD 12 false=true:=by rw[getD_both hnot];decide
  have d0:=hdep 0 (by kernel_rfl)
  have d1:=hdep 1 (by kernel_rfl)
  have d2:=hdep 2 (by kernel_rfl)
  have d3:=hdep 3 (by kernel_rfl)
  have d4:=hdep 4 (by kernel_rfl)
  have d5:=hdep 5 (by kernel_rfl)
  have d6:=hdep 6 (by kernel_rfl)
  have d7:=hdep 7 (by kernel_rfl)
  have d8:=hdep 8 (by kernel_rfl)
  have d9:=hdep 9 (by kernel_rfl)
  have d11:=hdep 11 (by kernel_rfl)
  obtain rfl:=f0 d0
  obtain rfl:=f1 d1
  obtain rfl:=f2 d2
  obtain rfl:=f3 d3
  obtain rfl:=f4 d4
  obtain rfl:=f5 d5
  obtain rfl:=f11 d11
  have nL:=getD_both hnot
  obtain⟨x,cc,ps,rfl,hb⟩:=(f9 d9).2 nL
  have gc:=hb.gcell hk
  have ch:=has_of_cell gc
  have cf:=hb.gfree
  have BF:=PLift.up hb.fin
  have DD:=PLift.up (show∀j,j<12→j≠10→done.getD j false=true from by intro j hj hne;match j,hj,hne with|0,_,_=>exact d0|1,_,_=>exact d1|2,_,_=>exact d2|3,_,_=>exact d3|4,_,_=>exact d4|5,_,_=>exact d5|6,_,_=>exact d6|7,_,_=>exact d7|8,_,_=>exact d8|9,_,_=>exact d9|10,_,h=>exact absurd rfl h|11,_,_=>exact d11)
  have FA:=PLift.up (f9 d9).1
  clear hb
  have HK:=PLift.up hK
  clear hK d0 d1 d2 d3 d4 d5 d11
  simp only[bt28A]
  go_simp
  refine HK.down _ _ ⟨_,_,_,_,_,_,_,_,_,_,_,_,rfl,⟨by have:=gw.1;unfold Has at this ⊢;simpa using this,fun q=>absurd q (by rw[getD_set_ne false (by decide),DD.down 9 (by decide) (by decide)];decide)⟩,kp f0,kp f1,kp f2,kp f3,kp f4,kp f5,kp f6,fun q=>(let⟨s,u,e1,e2,e3⟩:=f7 (done_old q (by decide));⟨s,u,e1,e2,getD_set_true e3⟩),fun q=>(let⟨s,u,B,e,h1,h2⟩:=f8 (done_old q (by decide));⟨s,u,B,e,h1,⟨getD_set_true h2.1,fun q2=>absurd q2 (by rw[getD_set_ne false (by decide),DD.down 9 (by decide) (by decide)];decide)⟩⟩),fun q=>⟨fun j hj=>getD_set_true (FA.down j hj),fun q2=>absurd q2 (by rw[getD_set_same (by rw[hsz];decide)];decide)⟩,kp f10,kp f11,?_⟩
  exact fun _=>⟨fun j hj hne=>getD_set_true (DD.down j hj hne),BF.down⟩
 ·rintro done a w hall ⟨t130,t131,t132,t133,t134,t135,t136,t137,t138,t139,t140,t141,rfl,gw,f0,f1,f2,f3,f4,f5,f6,f7,f8,f9,f10,f11,f12⟩
  exact h' _ _ _ _ _ _ _ _ _ _ _ _ w (f12 (hall 12 (by decide))).2
end Go.Proofs.YtdjhnfopdlgliaaGreat
