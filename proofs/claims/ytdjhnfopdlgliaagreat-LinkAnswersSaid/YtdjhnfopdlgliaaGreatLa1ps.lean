/- Lemmas and contracts for the proof of LinkAnswers (several texts in one, printed by wip/tools/pack.py): LsJ LpA. -/
import Derived.Test.YtdjhnfopdlgliaaGreatLa1pr
import Derived.Test.YtdjhnfopdlgliaaGreatLa1pm
import Derived.Test.YtdjhnfopdlgliaaGreatLa1pc
set_option maxRecDepth 100000
set_option maxHeartbeats 16000000
set_option linter.unusedVariables false
set_option linter.unusedSimpArgs false
namespace Go.Proofs.YtdjhnfopdlgliaaGreat
open Go.RowKit
open Classical
def begE(ts:Tr)(k:Int):Int:=if chkT ts≠0 then chkT ts else if k<0∨(ts.length:Int)≤k then 4 else 0
theorem beginE_any(ts:Tr)(a:Option Addr)(cap:Nat)(k:Int)(w:World)(h:SlOf 3 RNod w a ts)(hf:ts.length≤1000000):
  Calls Tryz.prog 42 #[.agg #[.slice a ts.length cap],.int .i64 k] w (Grows w (.int .i64 (begE ts k))):=by
 have H:=Lib.hid h
 obtain⟨c,hc⟩:∃c,chkT ts=c:=⟨_,rfl⟩
 have HC:=Lib.hid hc
 have CK:=treeCheck_err ts a cap (c:=c)
 have CK:=Lib.hid (fun w h=>CK w h hf hc)
 obtain⟨R,hR⟩:∃R,begE ts k=R:=⟨_,rfl⟩
 have HR:=Lib.hid hR
 rw[hR]
 clear h hc hR
 go_enter Tryz.func42,Tryz.ntmps42
 go_wp2_with fail
 have RB:=Lib.hid (Row.new w #[.slice a ts.length cap] 31)
 obtain⟨W1,hW1⟩:∃W:World,Hid (W=w.alloc (.cells #[.slice a ts.length cap] 31)):=⟨_,Lib.hid rfl⟩
 rw[←hW1.out] at RB ⊢
 have G1:Hid (Gr w W1):=Lib.hid (by rw[hW1.out];exact(Gr.refl _).alloc _)
 obtain⟨P0,hP0⟩:∃N:Nat,Hid (w.heap.size=N):=⟨_,Lib.hid rfl⟩
 rw[hP0.out] at RB ⊢
 clear hW1 hP0
 refine(CK.out W1 (H.out.gr RNod.mono G1.out)).mono ?_
 rintro e w1 ⟨rfl,hg1⟩
 have G2:=Lib.hid (G1.out.trans hg1)
 have b0:w1.cell? ⟨P0,0,none⟩=some (.slice a ts.length cap):=(RB.out.gr hg1).cell 0 (by simp)
 clear hg1 RB G1
 by_cases hc:c=0
 ·subst hc
  by_cases h1:k<0
  ·have RE:Hid (R=4):=Lib.hid (by rw[←HR.out];unfold begE;rw[if_neg (by rw[HC.out];simp),if_pos (.inl h1)])
   have b1:decide (k<0)=true:=by simpa using h1
   clear HR
   go_wp2_with fail
   go_ret
   exact⟨by rw[RE.out];rfl,G2.out⟩
  ·by_cases h2:(ts.length:Int)≤k
   ·have RE:Hid (R=4):=Lib.hid (by rw[←HR.out];unfold begE;rw[if_neg (by rw[HC.out];simp),if_pos (.inr h2)])
    have b1:decide (k<0)=false:=by simpa using h1
    have b2:decide ((ts.length:Int)≤k)=true:=by simpa using h2
    clear HR
    go_wp2_with fail
    go_ret
    exact⟨by rw[RE.out];rfl,G2.out⟩
   ·have RE:Hid (R=0):=Lib.hid (by rw[←HR.out];unfold begE;rw[if_neg (by rw[HC.out];simp),if_neg (by omega)])
    have b1:decide (k<0)=false:=by simpa using h1
    have b2:decide ((ts.length:Int)≤k)=false:=by simpa using h2
    clear HR
    go_wp2_with fail
    go_ret
    exact⟨by rw[RE.out];rfl,G2.out⟩
 ·have RE:Hid (R=c):=Lib.hid (by rw[←HR.out];unfold begE;rw[if_pos (by rw[HC.out];exact hc),HC.out])
  have c00:(c==0)=false:=by rw[beq_eq_false_iff_ne];exact hc
  clear HR
  go_wp2_with fail
  go_ret
  exact⟨by rw[RE.out];rfl,G2.out⟩
theorem OfE_any(ts:Tr)(a:Option Addr)(cap:Nat)(k:Int)(pn cn:St)(w:World)(h:SlOf 3 RNod w a ts)(hf:ts.length≤1000000):
  Calls Tryz.prog 9 #[.agg #[.slice a ts.length cap],.int .i64 k,.string (bs pn),.string (bs cn)] w (GivesLks w (ofE ts k pn cn)):=by
 by_cases hb:begE ts k=0
 ·unfold begE at hb
  have hc:chkT ts=0:=by
   by_cases e:chkT ts=0
   ·exact e
   ·rw[if_pos e] at hb;exact hb
  rw[if_neg (by rw[hc];simp)] at hb
  have hk:¬(k<0∨(ts.length:Int)≤k):=fun e=>by rw[if_pos e] at hb;cases hb
  obtain⟨i,rfl⟩:∃i:Nat,k=i:=⟨k.toNat,by omega⟩
  unfold ofE
  rw[if_neg (by rw[hc];simp),if_neg hk,Int.toNat_natCast]
  exact Of_any ts a cap i pn cn w h hc (by omega)
 ·have RE:ofE ts k pn cn= .error (begE ts k):=by
   unfold begE at hb ⊢
   unfold ofE
   by_cases e:chkT ts=0
   ·have e':¬(chkT ts≠0):=by rw[e];simp
    rw[if_neg e'] at hb
    rw[if_neg e',if_neg e']
    by_cases hk:k<0∨(ts.length:Int)≤k
    ·rw[if_pos hk,if_pos hk]
    ·rw[if_neg hk] at hb;exact absurd rfl hb
   ·rw[if_pos e,if_pos e]
  rw[RE]
  have H:=Lib.hid h
  have BG:=fun W (hg:Gr w W)=>beginE_any ts a cap k W (h.gr RNod.mono hg) hf
  obtain⟨c,hc⟩:∃c,begE ts k=c:=⟨_,rfl⟩
  rw[hc] at BG hb ⊢
  have BG:=Lib.hid BG
  have c00:(c==0)=false:=by rw[beq_eq_false_iff_ne];exact hb
  obtain⟨P0,hP0⟩:∃P:Ending→World→Prop,P=GivesLks w (.error c):=⟨_,rfl⟩
  rw[←hP0]
  have HP0:=Lib.hid hP0
  clear hP0 h hc RE
  go_enter Tryz.func9,Tryz.ntmps9
  go_wp2_with fail
  refine(BG.out _ ((Gr.refl _).alloc _)).mono ?_
  rintro e w1 ⟨rfl,hg1⟩
  have G2:Hid (Gr w w1):=Lib.hid (((Gr.refl _).alloc _).trans hg1)
  clear hg1
  go_wp2_with fail
  rw[HP0.out]
  exact⟨rfl,G2.out⟩
theorem sl_one{w:World}{B n:Nat}(h:Row w B 3 (nums [(n:Int)]))(hn:n≤1000000):SlOf 1 RI w (some ⟨B,0,none⟩) ([n].map (fun n:Nat=>(n:Int))):=
 h.s.slI (fun k hk=>by
  have e:k=0:=by simp at hk;omega
  subst e
  simp only[List.map_cons,List.map_nil,List.getElem_cons_zero]
  unfold Wide
  omega)
theorem put_any(ps:List Prp)(pa:Option Addr)(pc:Nat)(nm val:St)(w:World)(h:SlOf 2 RPrp w pa ps)(hl:ps.length≤1000)(hs:∀q∈ps,q.name.length≤1000∧q.val.length≤100000)(hp:nm.length≤1000)(hc:ps.length≤pc):
  Calls Tryz.prog 46 #[.slice pa ps.length pc,.string (bs nm),.string (bs val)] w fun e w'=>∃a c,e= .returned (.slice a (putP ps ⟨nm,val⟩).length c)∧w'.ownsRow w.heap.size 89 2 (.slice a (putP ps ⟨nm,val⟩).length c) (putP ps ⟨nm,val⟩).length ((putP ps ⟨nm,val⟩).flatMap encP)∧Gr w w':=by
 have C:=Lib.hid (rPut_ok ps ⟨nm,val⟩ pa pc w h hl hs hp hc)
 obtain⟨P0,hP0⟩:∃P:Ending→World→Prop,P=fun e w'=>∃a c,e= .returned (.slice a (putP ps ⟨nm,val⟩).length c)∧w'.ownsRow w.heap.size 89 2 (.slice a (putP ps ⟨nm,val⟩).length c) (putP ps ⟨nm,val⟩).length ((putP ps ⟨nm,val⟩).flatMap encP)∧Gr w w':=⟨_,rfl⟩
 rw[←hP0]
 have HP0:=Lib.hid hP0
 clear hP0 h hs
 go_enter Tryz.func46,Tryz.ntmps46
 go_wp2_with fail
 refine C.out.mono ?_
 rintro e w1 ⟨a,c,rfl,ho,hg⟩
 have HO:=Lib.hid ho
 have HG:=Lib.hid hg
 clear ho hg C
 go_wp2_with fail
 rw[HP0.out]
 exact⟨a,c,rfl,HO.out,HG.out⟩
def FinC(wr:World)(b len g k:Nat)(ps:List Prp)(w:World):Prop:=
 ∃(w1:World) (m:Nat) (x:Option Addr) (c:Nat),w=w1.setCell ⟨g,k*3+2,none⟩ (.slice x (putP ps ⟨[35,99,101,108,108,115],cellsS [m]⟩).length c)∧m≤9∧Mv b len wr w1∧w1.ownsRow wr.heap.size 89 2 (.slice x (putP ps ⟨[35,99,101,108,108,115],cellsS [m]⟩).length c) (putP ps ⟨[35,99,101,108,108,115],cellsS [m]⟩).length ((putP ps ⟨[35,99,101,108,108,115],cellsS [m]⟩).flatMap encP)
end Go.Proofs.YtdjhnfopdlgliaaGreat
