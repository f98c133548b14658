/- Lemmas and contracts for the proof of LinkAnswers (several texts in one, printed by wip/tools/pack.py): Shelf TeC TeD TeE TeF TeG. -/
import Derived.Shelf.Small.Bits
import Derived.Shelf.Small.Strs
import Derived.Shelf.Small.Wraps
import Derived.Shelf.Strconv.Itoa0
import Derived.Shelf.Strings.Search1
import Derived.Shelf.Strings.Search2
import Derived.Shelf.Strings.Search3
import Derived.Shelf.LaysM
import Derived.Shelf.Strings.Shaped
import Derived.Shelf.Strings.Prefix
import Derived.Ground.Names2Prog
import Derived.Shelf.Slices.Clone
import Derived.Shelf.Slices.CompactI
import Derived.Shelf.Slices.SearchI
import Derived.Shelf.Slices.Cells
import Derived.Ground.SlgnProg
import Derived.Shelf.SlicesE.Clone
import Derived.Test.YtdjhnfopdlgliaaGreatProg
import Derived.Test.YtdjhnfopdlgliaaGreatLa1pa
import Derived.Lib.IndexAny
import Derived.Maps.Keyed
import Derived.DeepKeys4
import Derived.Maps.OwnOps
set_option maxRecDepth 100000
set_option maxHeartbeats 16000000
namespace Go.Proofs
open Go.Shelf
def Tryz.lays137_ren:Go.Shelf.Ren:=⟨fun|137=>173|217=>184|266=>190|n=>n,fun|9=>9|5=>5|3=>3|n=>n,fun|n=>n⟩
theorem Tryz.lays137:Go.Proofs.Lays.n137 Tryz.prog Tryz.lays137_ren:={
 mixed:=by kernel_rfl
 f137:=Tryz.func173.trans (congrArg some (by kernel_rfl))
 f217:=Tryz.func184.trans (congrArg some (by kernel_rfl))
 f266:=Tryz.func190.trans (congrArg some (by kernel_rfl))
 t3:=Tryz.underlying3
 a3:=Tryz.isAgg3
 z3:=Tryz.sizeOf3
 v3:=Tryz.zeroValue3
 t5:=Tryz.underlying5
 a5:=Tryz.isAgg5
 z5:=Tryz.sizeOf5
 v5:=Tryz.zeroValue5
 t9:=Tryz.underlying9
 a9:=Tryz.isAgg9
 z9:=Tryz.sizeOf9
 v9:=Tryz.zeroValue9}
open Go.RowKit in
theorem Tryz.strings_IndexByte(s:ByteArray)(c:Int)(w:World):
  Calls Tryz.prog 173 #[.string s,.int .u8 c] w fun e w'=>e= .returned (.int .i64 (Lib.indexByte s.data.toList c.toNat.toUInt8))∧w'=w:=Any.strings_IndexByte Tryz.lays137 s c w
def Tryz.lays144_ren:Go.Shelf.Ren:=⟨fun|144=>158|143=>175|219=>185|217=>184|225=>191|224=>192|267=>193|266=>190|314=>197|n=>n,fun|9=>9|4=>4|3=>3|5=>5|46=>113|146=>231|51=>209|n=>n,fun|1=>0|n=>n⟩
theorem Tryz.lays144:Go.Proofs.Lays.n144 Tryz.prog Tryz.lays144_ren:={
 mixed:=by kernel_rfl
 f143:=Tryz.func175.trans (congrArg some (by kernel_rfl))
 f144:=Tryz.func158.trans (congrArg some (by kernel_rfl))
 f217:=Tryz.func184.trans (congrArg some (by kernel_rfl))
 f219:=Tryz.func185.trans (congrArg some (by kernel_rfl))
 f224:=Tryz.func192.trans (congrArg some (by kernel_rfl))
 f225:=Tryz.func191.trans (congrArg some (by kernel_rfl))
 f266:=Tryz.func190.trans (congrArg some (by kernel_rfl))
 f267:=Tryz.func193.trans (congrArg some (by kernel_rfl))
 f314:=Tryz.func197.trans (congrArg some (by kernel_rfl))
 t3:=Tryz.underlying3
 a3:=Tryz.isAgg3
 z3:=Tryz.sizeOf3
 v3:=Tryz.zeroValue3
 t4:=Tryz.underlying4
 a4:=Tryz.isAgg4
 z4:=Tryz.sizeOf4
 v4:=Tryz.zeroValue4
 t5:=Tryz.underlying5
 a5:=Tryz.isAgg5
 z5:=Tryz.sizeOf5
 v5:=Tryz.zeroValue5
 t9:=Tryz.underlying9
 a9:=Tryz.isAgg9
 z9:=Tryz.sizeOf9
 v9:=Tryz.zeroValue9
 t46:=Tryz.underlying113
 a46:=Tryz.isAgg113
 z46:=Tryz.sizeOf113
 v46:=Tryz.zeroValue113
 t51:=Tryz.underlying209
 a51:=Tryz.isAgg209
 z51:=Tryz.sizeOf209
 v51:=Tryz.zeroValue209
 t146:=Tryz.underlying231
 a146:=Tryz.isAgg231
 z146:=Tryz.sizeOf231
 v146:=Tryz.zeroValue231
 g1:=by kernel_rfl}
open Go.RowKit Go.Lib in
theorem Tryz.strings_Contains_one(s:ByteArray)(c:UInt8)(w:World):
  Calls Tryz.prog 158 #[.string s,.string ⟨#[c]⟩] w fun e w'=>e= .returned (.bool (decide (0≤Lib.indexByte s.data.toList c)))∧w'=w:=Any.strings_Contains_one Tryz.lays144 s c w
def Tryz.lays99_ren:Go.Shelf.Ren:=⟨fun|99=>157|206=>174|n=>n,fun|9=>9|4=>4|3=>3|n=>n,fun|n=>n⟩
theorem Tryz.lays99:Go.Proofs.Lays.n99 Tryz.prog Tryz.lays99_ren:={
 mixed:=by kernel_rfl
 f99:=Tryz.func157.trans (congrArg some (by kernel_rfl))
 f206:=Tryz.func174.trans (congrArg some (by kernel_rfl))
 t3:=Tryz.underlying3
 a3:=Tryz.isAgg3
 z3:=Tryz.sizeOf3
 v3:=Tryz.zeroValue3
 t4:=Tryz.underlying4
 a4:=Tryz.isAgg4
 z4:=Tryz.sizeOf4
 v4:=Tryz.zeroValue4
 t9:=Tryz.underlying9
 a9:=Tryz.isAgg9
 z9:=Tryz.sizeOf9
 v9:=Tryz.zeroValue9}
open Go.RowKit Go.Lib in
theorem Tryz.strings_HasPrefix(s p:ByteArray)(w:World):
  Calls Tryz.prog 157 #[.string s,.string p] w fun e w'=>e= .returned (.bool (Lib.hasPrefix s.data.toList p.data.toList))∧w'=w:=Any.strings_HasPrefix Tryz.lays99 s p w
def Tryz.laysNm215_ren:Go.Shelf.Ren:=⟨fun|15=>86|n=>n,fun|22=>38|3=>3|4=>4|n=>n,fun|n=>n⟩
theorem Tryz.laysNm215:Go.Proofs.Lays2.n15 Tryz.prog Tryz.laysNm215_ren:={
 mixed:=by kernel_rfl
 f15:=Tryz.func86.trans (congrArg some (by kernel_rfl))
 t3:=Tryz.underlying3
 a3:=Tryz.isAgg3
 z3:=Tryz.sizeOf3
 v3:=Tryz.zeroValue3
 t4:=Tryz.underlying4
 a4:=Tryz.isAgg4
 z4:=Tryz.sizeOf4
 v4:=Tryz.zeroValue4
 t22:=Tryz.underlying38
 a22:=Tryz.isAgg38
 z22:=Tryz.sizeOf38
 v22:=Tryz.zeroValue38
 i3:=by kernel_rfl}
open Go.RowKit Go.Lib in
theorem Tryz.slices_Clone_int(b off n c:Nat)(zs:List Int)(w:World)(hz:n≤zs.length)(hbig:n*8≤140737488355328)(hc:∀j,j<zs.length→w.cell? ⟨b,off+j,none⟩=some (.int .i64 (zs.getD j 0))):
  Calls Tryz.prog 86 #[.slice (some ⟨b,off,none⟩) n c] w fun e w'=>∃v',e= .returned v'∧w'.ownsRow w.heap.size 3 1 v' n ((zs.take n).map (Value.int .i64))∧v'≠ .slice none 0 0∧Below w.heap.size w w':=Any.slices_Clone_int Tryz.laysNm215 b off n c zs w hz hbig hc
def Tryz.laysNm220_ren:Go.Shelf.Ren:=⟨fun|20=>52|n=>n,fun|22=>38|3=>3|4=>4|0=>0|n=>n,fun|n=>n⟩
theorem Tryz.laysNm220:Go.Proofs.Lays2.n20 Tryz.prog Tryz.laysNm220_ren:={
 mixed:=by kernel_rfl
 f20:=Tryz.func52.trans (congrArg some (by kernel_rfl))
 t0:=Tryz.underlying0
 a0:=Tryz.isAgg0
 z0:=Tryz.sizeOf0
 v0:=Tryz.zeroValue0
 t3:=Tryz.underlying3
 a3:=Tryz.isAgg3
 z3:=Tryz.sizeOf3
 v3:=Tryz.zeroValue3
 t4:=Tryz.underlying4
 a4:=Tryz.isAgg4
 z4:=Tryz.sizeOf4
 v4:=Tryz.zeroValue4
 t22:=Tryz.underlying38
 a22:=Tryz.isAgg38
 z22:=Tryz.sizeOf38
 v22:=Tryz.zeroValue38
 i3:=by kernel_rfl}
open Go.RowKit Go.Lib Go.Sort in
theorem Tryz.slices_Compact_int(blk off cap:Nat)(zs:List Int)(w:World)(hH:Holds (Value.int .i64) w blk off zs.toArray)(hsz:zs.length≤9223372036854775807)(hcap:zs.length≤cap):
  Calls Tryz.prog 52 #[.slice (some ⟨blk,off,none⟩) zs.length cap] w fun e w'=>e= .returned (.slice (some ⟨blk,off,none⟩) (Lib.compact zs).length cap)∧∃q,w'=putRow (Value.int .i64) (Sort.ahead w q) blk off (Lib.compact zs++List.replicate (zs.length-(Lib.compact zs).length) 0).toArray:=Any.slices_Compact_int Tryz.laysNm220 blk off cap zs w hH hsz hcap
open Go.RowKit Go.Lib Go.Sort in
theorem Tryz.slices_Compact_int_empty(a:Option Addr)(cap:Nat)(w:World):
  Calls Tryz.prog 52 #[.slice a 0 cap] w fun e w'=>e= .returned (.slice a 0 cap)∧w'=w:=Any.slices_Compact_int_empty Tryz.laysNm220 a cap w
end Go.Proofs
set_option linter.unusedVariables false
set_option linter.unusedSimpArgs false
namespace Go.Proofs.YtdjhnfopdlgliaaGreat
open Go.RowKit
open Classical
theorem letter_any(c:Int)(w:World):
  Calls Tryz.prog 154 #[.int .u8 c] w fun e w'=>e= .returned (.bool (letC c))∧w=w':=by
 go_enter Tryz.func154,Tryz.ntmps154
 go_wp2
 all_goals go_ret
 all_goals exact⟨ret_bool (by unfold letC;rw[Bool.eq_iff_iff];simp;try omega),rfl⟩
theorem digit_any(c:Int)(w:World):
  Calls Tryz.prog 183 #[.int .u8 c] w fun e w'=>e= .returned (.bool (digC c))∧w=w':=by
 go_enter Tryz.func183,Tryz.ntmps183
 go_wp2
 all_goals go_ret
 all_goals exact⟨ret_bool (by unfold digC;rw[Bool.eq_iff_iff];simp;try omega),rfl⟩
theorem word_any(c:Int)(w:World):
  Calls Tryz.prog 172 #[.int .u8 c] w fun e w'=>e= .returned (.bool (wrdC c))∧w=w':=by
 go_enter Tryz.func172,Tryz.ntmps172
 go_wp2_with (first
  |(go_at_call 154;refine(letter_any _ _).mono ?_;rintro e w' ⟨rfl,rfl⟩)
  |(go_at_call 183;refine(digit_any _ _).mono ?_;rintro e w' ⟨rfl,rfl⟩))
 all_goals go_ret
 all_goals exact⟨ret_bool (by unfold wrdC;simp_all),rfl⟩
theorem name_any(c:UInt8)(w:World):
  Calls Tryz.prog 156 #[.int .u8 (c.toNat:Int)] w fun e w'=>e= .returned (.bool (namC c))∧w=w':=by
 go_enter Tryz.func156,Tryz.ntmps156
 go_wp2_with (first
  |(go_at_call 172;refine(word_any _ _).mono ?_;rintro e w' ⟨rfl,rfl⟩)
  |(go_at_call 173;refine(Tryz.strings_IndexByte _ _ _).mono ?_;rintro e w' ⟨rfl,rfl⟩))
 all_goals go_ret
 all_goals exact⟨ret_bool (by unfold namC sgnS;rw[Lib.contains_iff_indexByte];simp_all),rfl⟩
theorem tokenAll_any(s:St)(w:World)(hf:s.length≤1000000):
  Calls Tryz.prog 155 #[.string (bs s),.func (.func 156) #[] #[]] w fun e w'=>e= .returned (.bool (s.all namC))∧w=w':=by
 go_enter Tryz.func155,Tryz.ntmps155
 go_wp2_with fail
 go_loop [8] (fun i=>∃k:Nat,k≤s.length∧i= .int .i64 k∧(s.take k).all namC=true) (fun i=>s.length-(intOf i).toNat)
 case atStart=>exact⟨0,Nat.zero_le _,rfl,rfl⟩
 case round=>
  obtain⟨k,hk,rfl,hall⟩:=hrel
  have HA:=Lib.hid hall
  clear hall
  by_cases hlt:k<s.length
  ·by_cases hq:namC s[k]=true
   ·go_wp2_with (go_at_call 156;refine(name_any _ _).mono ?_;rintro e w' ⟨rfl,rfl⟩)
    go_round
    case rel=>exact⟨k+1,by omega,by go_num,by rw[List.take_succ_eq_append_getElem hlt,List.all_append,HA.out];simp[hq]⟩
    case measure=>simp[intOf];omega
   ·rw[Bool.not_eq_true] at hq
    go_wp2_with (go_at_call 156;refine(name_any _ _).mono ?_;rintro e w' ⟨rfl,rfl⟩)
    go_ret
    exact⟨ret_bool (by symm;rw[List.all_eq_false];exact⟨_,List.getElem_mem hlt,by simp[hq]⟩),rfl⟩
  ·go_wp2_with fail
   go_ret
   exact⟨ret_bool (by rw[←HA.out,List.take_of_length_le (by omega)]),rfl⟩
theorem chr0{s:St}(h:1≤s.length):chr s 0=(s[0].toNat:Int):=by
 unfold chr;rw[List.getD_eq_getElem?_getD,List.getElem?_eq_getElem h];rfl
theorem tokenName_any(s:St)(w:World):
  Calls Tryz.prog 140 #[.string (bs s)] w fun e w'=>e= .returned (.bool (nameOk s))∧w=w':=by
 by_cases h1:1≤s.length
 ·by_cases h2:s.length≤31
  ·have e0:(bs s).size=s.length:=bs_size s
   go_enter Tryz.func140,Tryz.ntmps140
   go_wp2_with (first
    |(go_at_call 154;refine(letter_any _ _).mono ?_;rintro e w' ⟨rfl,rfl⟩)
    |(go_at_call 155;refine(tokenAll_any _ _ (by omega)).mono ?_;rintro e w' ⟨rfl,rfl⟩))
   all_goals go_ret
   all_goals exact⟨ret_bool (by unfold nameOk;rw[chr0 h1];simp_all),rfl⟩
  ·have e0:(bs s).size=s.length:=bs_size s
   go_enter Tryz.func140,Tryz.ntmps140
   go_wp2_with fail
   go_ret
   exact⟨ret_bool (by unfold nameOk;simp[h1,h2]),rfl⟩
 ·go_enter Tryz.func140,Tryz.ntmps140
  go_wp2_with fail
  go_ret
  exact⟨ret_bool (by unfold nameOk;simp[h1]),rfl⟩
theorem hasPre35(s:St):Lib.hasPrefix s [35]=decide (s.head?=some 35):=by
 cases s with
 |nil=>rfl
 |cons a l=>
  by_cases h:a=35
  ·subst h;simp[Lib.hasPrefix,List.isPrefixOf]
  ·have h2:¬35=a:=fun e=>h e.symm
   simp[Lib.hasPrefix,List.isPrefixOf,h,h2]
theorem tokenProp_any(s:St)(w:World)(hf:s.length≤9223372036854775807):
  Calls Tryz.prog 141 #[.string (bs s)] w fun e w'=>e= .returned (.bool (propOk s))∧w=w':=by
 by_cases hp:s.head?=some 35
 ·have hl:Lib.hasPrefix s [35]=true:=by rw[hasPre35];simp[hp]
  have hs:1≤s.length:=by cases s with|nil=>simp at hp|cons a l=>simp
  have ht:List.take (s.length-1) s.tail=s.tail:=List.take_of_length_le (by simp)
  have hu:undr s=95::s.tail:=by unfold undr;rw[if_pos hp]
  go_enter Tryz.func141,Tryz.ntmps141
  go_wp2_with (first
   |(go_at_call 157;refine(Tryz.strings_HasPrefix _ _ _).mono ?_;rintro e w' ⟨rfl,rfl⟩)
   |(go_at_call 140;refine(tokenName_any _ _).mono ?_;rintro e w' ⟨rfl,rfl⟩)
   |(go_at_call 158;refine(Tryz.strings_Contains_one _ _ _).mono ?_;rintro e w' ⟨rfl,rfl⟩))
  all_goals go_ret
  all_goals exact⟨ret_bool (by unfold propOk;rw[hu,Lib.contains_iff_indexByte];simp_all),rfl⟩
 ·have hl:Lib.hasPrefix s [35]=false:=by rw[hasPre35];simp[hp]
  have hu:undr s=s:=by unfold undr;rw[if_neg hp]
  go_enter Tryz.func141,Tryz.ntmps141
  go_wp2_with (first
   |(go_at_call 157;refine(Tryz.strings_HasPrefix _ _ _).mono ?_;rintro e w' ⟨rfl,rfl⟩)
   |(go_at_call 140;refine(tokenName_any _ _).mono ?_;rintro e w' ⟨rfl,rfl⟩)
   |(go_at_call 158;refine(Tryz.strings_Contains_one _ _ _).mono ?_;rintro e w' ⟨rfl,rfl⟩))
  all_goals go_ret
  all_goals exact⟨ret_bool (by unfold propOk;rw[hu,Lib.contains_iff_indexByte];simp_all),rfl⟩
theorem prps_at{w:World}{a:Option Addr}{ps:List Prp}(h:SlOf 2 RPrp w a ps)(k:Nat)(hk:k<ps.length):∃b o,a=some ⟨b,o,none⟩∧w.cell? ⟨b,o+k*2,none⟩=some (.string (bs ps[k].name))∧w.cell? ⟨b,o+k*2+1,none⟩=some (.string (bs ps[k].val))∧ps[k].name.length≤9223372036854775807∧ps[k].val.length≤9223372036854775807:=by
 obtain⟨b,o,e,⟨c0,l0⟩,⟨c1,l1⟩⟩:=h k hk
 exact⟨b,o,e,c0,c1,l0,l1⟩
theorem nods_at{w:World}{a:Option Addr}{ts:Tr}(h:SlOf 3 RNod w a ts)(k:Nat)(hk:k<ts.length):∃b o pa pc,a=some ⟨b,o,none⟩∧w.cell? ⟨b,o+k*3,none⟩=some (.int .i64 ts[k].parent)∧w.cell? ⟨b,o+k*3+1,none⟩=some (.string (bs ts[k].name))∧w.cell? ⟨b,o+k*3+2,none⟩=some (.slice pa ts[k].props.length pc)∧SlOf 2 RPrp w pa ts[k].props∧Fit ts[k].props.length∧Wide ts[k].parent∧ts[k].name.length≤9223372036854775807:=by
 obtain⟨b,o,e,⟨c0,w0⟩,⟨c1,l1⟩,⟨pa,pc,c2,_,hf,hs⟩⟩:=h k hk
 exact⟨b,o,pa,pc,e,c0,c1,c2,hs,hf,w0,l1⟩
theorem check1_any(n v:St)(w:World)(hf:v.length≤9223372036854775807):
  Calls Tryz.prog 101 #[.agg #[.string (bs n),.string (bs v)]] w (Grows w (.bool (decide (256<v.length)))):=by
 go_enter Tryz.func101,Tryz.ntmps101
 go_wp2
 go_ret
 exact⟨ret_bool (by rw[Bool.eq_iff_iff];simp;try omega),(Gr.refl _).alloc _⟩
theorem idxPrp_any(ps:List Prp)(a:Option Addr)(cap:Nat)(w:World)(h:SlOf 2 RPrp w a ps)(hf:Fit ps.length):
  Calls Tryz.prog 139 #[.slice a ps.length cap,.func (.func 101) #[] #[]] w fun e w'=>∃i:Int,e= .returned (.int .i64 i)∧(decide (0≤i)=ps.any (fun p=>decide (256<p.val.length)))∧Gr w w':=by
 unfold Fit at hf
 have H:=Lib.hid h
 clear h
 go_enter Tryz.func139,Tryz.ntmps139
 go_wp2
 go_loopw [8] (fun i wr=>∃k:Nat,k≤ps.length∧i= .int .i64 k∧(∀j (hj:j<k) (hjl:j<ps.length),¬256<ps[j].val.length)∧Gr w wr) (fun i _=>ps.length-(intOf i).toNat)
 case atStart=>exact⟨0,Nat.zero_le _,rfl,fun j h=>absurd h (by omega),Gr.refl _⟩
 case round=>
  obtain⟨k,hk,rfl,hall,hg⟩:=hrel
  have HA:=Lib.hid hall
  have HG:=Lib.hid hg
  clear hall hg
  by_cases hlt:k<ps.length
  ·obtain⟨b,o,rfl,c0,c1,l0,l1⟩:=prps_at (H.out.gr RPrp.mono HG.out) k hlt
   by_cases hq:256<ps[k].val.length
   ·have Q:=Lib.hid hq
    have E:(decide (256<ps[k].val.length))=true:=by simp[hq]
    clear hq
    go_wp2_with (go_at_call 101;refine(check1_any _ _ _ l1).mono ?_;rintro e w' ⟨rfl,O,d,rfl⟩)
    go_ret
    refine⟨_,rfl,?_,HG.out.xt _ _⟩
    rw[eq_comm,show decide (0≤(k:Int))=true by simp,List.any_eq_true]
    exact⟨_,List.getElem_mem hlt,by simpa using Q.out⟩
   ·have Q:=Lib.hid hq
    have E:(decide (256<ps[k].val.length))=false:=by simp[hq]
    clear hq
    go_wp2_with (go_at_call 101;refine(check1_any _ _ _ l1).mono ?_;rintro e w' ⟨rfl,O,d,rfl⟩)
    go_roundw
    case rel=>
     refine⟨k+1,by omega,by go_num,fun j hj hjl=>?_,HG.out.xt _ _⟩
     by_cases e:j=k
     ·subst e;exact Q.out
     ·exact HA.out j (by omega) hjl
    case measure=>simp[intOf];omega
  ·go_wp2
   go_ret
   refine⟨_,rfl,?_,HG.out⟩
   rw[eq_comm,show decide ((0:Int)≤ -1)=false by simp,List.any_eq_false]
   intro x hx
   obtain⟨j,hj,rfl⟩:=List.getElem_of_mem hx
   simpa using HA.out j (by omega) hj
theorem conPrp_any(ps:List Prp)(a:Option Addr)(cap:Nat)(w:World)(h:SlOf 2 RPrp w a ps)(hf:Fit ps.length):
  Calls Tryz.prog 100 #[.slice a ps.length cap,.func (.func 101) #[] #[]] w (Grows w (.bool (ps.any (fun p=>decide (256<p.val.length))))):=by
 have H:=Lib.hid h
 have HF:=Lib.hid hf
 clear h hf
 go_enter Tryz.func100,Tryz.ntmps100
 go_wp2_with fail
 refine(idxPrp_any ps a cap _ H.out HF.out).mono ?_
 rintro e w' ⟨x,rfl,hx,O,d,rfl⟩
 have X:=Lib.hid hx
 clear hx
 go_wp2_with fail
 go_ret
 exact⟨ret_bool X.out,(Gr.refl _).xt _ _⟩
def OkPar(ts:Tr):Prop:=∀i (h:i<ts.length),0<i→0≤ts[i].parent∧ts[i].parent<i
theorem par_get{ts:Tr}{u:Nat}(h:u<ts.length):par ts (u:Int)=ts[u].parent:=by
 unfold par;rw[List.getD_eq_getElem?_getD,Int.toNat_natCast,List.getElem?_eq_getElem h];rfl
theorem depN_eq{ts:Tr}(hp:OkPar ts):∀(f g u:Nat),u≤f→u≤g→u<ts.length→depN ts f (u:Int)=depN ts g (u:Int):=by
 intro f
 induction f with
 |zero=>
  intro g u h1 h2 h3;obtain rfl:u=0:=by omega
  cases g<;>simp[depN]
 |succ f ih=>
  intro g u h1 h2 h3
  by_cases h0:u=0
  ·subst h0;cases g<;>simp[depN]
  ·obtain⟨g,rfl⟩:∃g',g=g'+1:=⟨g-1,by omega⟩
   obtain⟨p0,p1⟩:=hp u h3 (by omega)
   obtain⟨q,hq⟩:∃q:Nat,ts[u].parent=q:=⟨ts[u].parent.toNat,by omega⟩
   rw[depN,depN,if_pos (by omega),if_pos (by omega),par_get h3,hq,ih g q (by omega) (by omega) (by omega)]
def dep(ts:Tr)(u:Nat):Nat:=depN ts u (u:Int)
theorem dep_zero(ts:Tr):dep ts 0=0:=rfl
theorem dep_succ{ts:Tr}(hp:OkPar ts){u q:Nat}(h:u<ts.length)(h0:0<u)(hq:ts[u].parent=q):dep ts u=dep ts q+1:=by
 have:=hp u h h0
 obtain⟨v,rfl⟩:∃v,u=v+1:=⟨u-1,by omega⟩
 unfold dep
 rw[depN,if_pos (by omega),par_get h,hq,depN_eq hp v q q (by omega) (by omega) (by omega)]
theorem dep_le{ts:Tr}(hp:OkPar ts):∀u,u<ts.length→dep ts u≤u:=by
 intro u
 induction u using Nat.strongRecOn with
 |_ u ih=>
  intro h
  by_cases h0:u=0
  ·subst h0;simp[dep_zero]
  ·obtain⟨p0,p1⟩:=hp u h (by omega)
   obtain⟨q,hq⟩:∃q:Nat,ts[u].parent=q:=⟨ts[u].parent.toNat,by omega⟩
   rw[dep_succ hp h (by omega) hq]
   have:=ih q (by omega) (by omega)
   omega
theorem depth_any(ts:Tr)(a:Option Addr)(cap i:Nat)(w:World)(h:SlOf 3 RNod w a ts)(hf:ts.length≤1000000)(hp:OkPar ts)(hi:i<ts.length):
  Calls Tryz.prog 104 #[.agg #[.slice a ts.length cap],.int .i64 i] w (Grows w (.int .i64 (dep ts i:Nat))):=by
 have H:=Lib.hid h
 have HP:=Lib.hid hp
 clear h hp
 go_enter Tryz.func104,Tryz.ntmps104
 go_wp2_with fail
 go_loop [1,5] (fun u n=>∃k m:Nat,k<ts.length∧u= .int .i64 k∧n= .int .i64 m∧m+dep ts k=dep ts i) (fun u _=>(intOf u).toNat)
 case atStart=>exact⟨i,0,hi,rfl,rfl,by omega⟩
 case round=>
  obtain⟨k,m,hk,rfl,rfl,hs⟩:=hrel
  by_cases h0:0<k
  ·obtain⟨b,o,pa,pc,rfl,c0,c1,c2,_⟩:=nods_at H.out k hk
   obtain⟨p0,p1⟩:=HP.out k hk h0
   obtain⟨q,hq⟩:∃q:Nat,ts[k].parent=q:=⟨ts[k].parent.toNat,by omega⟩
   have D:=dep_succ HP.out hk h0 hq
   have L:=dep_le HP.out i hi
   rw[hq] at c0
   have HS:=Lib.hid hs
   have hh:=has_of_cell c0
   have hD:=Lib.hid D
   have hQ:=Lib.hid hq
   clear hs D hq c1 c2
   rw[hQ.out] at p1
   have hm:m+1≤1000000:=by have:=HS.out;have:=hD.out;omega
   go_wp2_with fail
   go_round
   case rel=>exact⟨q,m+1,by omega,rfl,by go_num,by have:=HS.out;have:=hD.out;omega⟩
   case measure=>simp[intOf];omega
  ·obtain rfl:k=0:=by omega
   have D:=dep_zero ts
   rw[D] at hs
   have HS:=Lib.hid hs
   clear hs D
   go_wp2_with fail
   go_ret
   exact⟨ret_int (by have:=HS.out;omega),(Gr.refl _).alloc _⟩
def hdrN(i:Nat)(n:Nod):Bool:=if i=0 then decide (n.parent= -1)&&decide (n.name= []) else decide (0≤n.parent)&&decide (n.parent<i)&&nameOk n.name
theorem nodNm_eq(i:Nat)(n:Nod):nodNm i n=(hdrN i n&&n.props.all (fun p=>propOk p.name)):=rfl
theorem named_iff{ts:Tr}:namedT ts=true↔∀j (h:j<ts.length),nodNm j ts[j]=true:=by
 unfold namedT
 rw[List.all_eq_true]
 constructor
 ·intro h j hj
  have:=h j (List.mem_range.2 hj)
  rwa [List.getD_eq_getElem?_getD,List.getElem?_eq_getElem hj] at this
 ·intro h j hj
  rw[List.mem_range] at hj
  rw[List.getD_eq_getElem?_getD,List.getElem?_eq_getElem hj]
  exact h j hj
theorem named_false{ts:Tr}{k:Nat}(h:k<ts.length)(q:nodNm k ts[k]=false):false=namedT ts:=by
 symm;rw[←Bool.not_eq_true,named_iff];intro h';rw[h' k h] at q;cases q
theorem named_hdr{ts:Tr}{k:Nat}(h:k<ts.length)(q:hdrN k ts[k]=false):false=namedT ts:=named_false h (by rw[nodNm_eq,q];rfl)
theorem named_prp{ts:Tr}{k:Nat}(h:k<ts.length){m:Nat}(hm:m<ts[k].props.length)(q:propOk ts[k].props[m].name=false):false=namedT ts:=
 named_false h (by rw[nodNm_eq,Bool.and_eq_false_iff];right;rw[List.all_eq_false];exact⟨_,List.getElem_mem hm,by simp[q]⟩)
theorem named_any(ts:Tr)(a:Option Addr)(cap:Nat)(w:World)(h:SlOf 3 RNod w a ts)(hf:ts.length≤1000000):
  Calls Tryz.prog 102 #[.agg #[.slice a ts.length cap]] w (Grows w (.bool (namedT ts))):=by
 have H:=Lib.hid h
 clear h
 go_enter Tryz.func102,Tryz.ntmps102
 go_wp2_with fail
 go_loopw [10] (fun i wr=>∃k:Nat,k≤ts.length∧i= .int .i64 k∧(∀j (hj:j<k) (hjl:j<ts.length),nodNm j ts[j]=true)∧Gr w wr) (fun i _=>ts.length-(intOf i).toNat)
 case atStart=>exact⟨0,Nat.zero_le _,rfl,fun j h=>absurd h (by omega),(Gr.refl _).alloc _⟩
 case round=>
  obtain⟨k,hk,rfl,hall,hg⟩:=hrel
  have HA:=Lib.hid hall
  have HG:=Lib.hid hg
  clear hall hg
  by_cases hlt:k<ts.length
  ·obtain⟨b,o,pa,pc,rfl,c0,c1,c2,hps,hpf,hw,hnl⟩:=nods_at (H.out.gr RNod.mono HG.out) k hlt
   obtain⟨n,hn⟩:∃n,n=ts[k]:=⟨_,rfl⟩
   have HN:=Lib.hid hn
   rw[←hn] at c0 c1 c2 hps hpf hw hnl
   clear hn
   have hh:=has_of_cell c0
   by_cases hq:hdrN k n=true
   ·have HPS:=Lib.hid hps
    have HQ:=Lib.hid hq
    unfold Fit at hpf
    clear hps
    by_cases k0:k=0
    case' pos=>
     have hq1:n.parent= -1∧n.name= []:=by simpa [hdrN,k0] using hq
     have kb:((k:Int)==0)=true:=by simp[k0]
     have kg:decide (0<k)=false:=by simp[k0]
     have K0:=Lib.hid k0
     clear k0
     rw[hq1.1] at c0
     rw[hq1.2] at c1
     clear hq hq1
     go_wp2_with fail
    case' neg=>
     have hq1:0≤n.parent∧n.parent<k∧nameOk n.name=true:=by simpa [hdrN,k0,and_assoc] using hq
     have kb:((k:Int)==0)=false:=by simp[k0]
     have kg:decide (0<k)=true:=by simp;omega
     have p0:decide (n.parent<0)=false:=by simp;omega
     have p1:decide ((k:Int)≤n.parent)=false:=by simp;omega
     have p2:=hq1.2.2
     have K0:=Lib.hid k0
     clear k0 hq1 hq
     go_wp2_with (go_at_call 140;refine(tokenName_any _ _).mono ?_;rintro e w' ⟨rfl,rfl⟩)
    all_goals
     obtain⟨w5,hw5⟩:∃wo,wo=wr:=⟨_,rfl⟩
     rw[←hw5] at HG HPS
     go_loopw [51] (fun i wr=>∃m:Nat,m≤n.props.length∧i= .int .i64 m∧(∀j (hj:j<m) (hjl:j<n.props.length),propOk n.props[j].name=true)∧Gr w5 wr) (fun i _=>n.props.length-(intOf i).toNat)
     case atStart=>exact⟨0,Nat.zero_le _,rfl,fun j h=>absurd h (by omega),by rw[hw5];exact(Gr.refl _).alloc _⟩
     case round=>
      clear hw5
      obtain⟨m,hm,rfl,hal,hg⟩:=hrel
      have HB:=Lib.hid hal
      have HJ:=Lib.hid hg
      clear hal hg
      by_cases hml:m<n.props.length
      ·obtain⟨b2,o2,rfl,d0,d1,l0,l1⟩:=prps_at (HPS.out.gr RPrp.mono HJ.out) m hml
       have hh2:=has_of_cell d0
       by_cases hv:propOk n.props[m].name=true
       ·go_wp2_with (go_at_call 141;refine(tokenProp_any _ _ l0).mono ?_;rintro e w' ⟨rfl,rfl⟩)
        go_roundw
        case rel=>
         refine⟨m+1,by omega,by go_num,fun j hj hjl=>?_,HJ.out.alloc _⟩
         by_cases e:j=m
         ·subst e;exact hv
         ·exact HB.out j (by omega) hjl
        case measure=>simp[intOf];omega
       ·rw[Bool.not_eq_true] at hv
        go_wp2_with (go_at_call 141;refine(tokenProp_any _ _ l0).mono ?_;rintro e w' ⟨rfl,rfl⟩)
        go_ret
        exact⟨ret_bool (by have:=HN.out;subst this;exact named_prp hlt hml hv),(HG.out.trans HJ.out).alloc _⟩
      ·go_wp2_with fail
       go_roundw
       case rel=>
        refine⟨k+1,by omega,by go_num,fun j hj hjl=>?_,HG.out.trans HJ.out⟩
        by_cases e:j=k
        ·subst e
         rw[←HN.out,nodNm_eq,HQ.out,Bool.true_and,List.all_eq_true]
         intro x hx
         obtain⟨j,hj,rfl⟩:=List.getElem_of_mem hx
         exact HB.out j (by omega) hj
        ·exact HA.out j (by omega) hjl
       case measure=>simp[intOf];omega
   ·rw[Bool.not_eq_true] at hq
    have F:Hid (false=namedT ts):=Lib.hid (named_hdr hlt (by rw[←HN.out];exact hq))
    by_cases k0:k=0
    ·have hq1:n.parent= -1→¬n.name= []:=by simpa [hdrN,k0] using hq
     have kb:((k:Int)==0)=true:=by simp[k0]
     have K0:=Lib.hid k0
     by_cases hpar:n.parent= -1
     ·have hne:n.name.isEmpty=false:=by have:=hq1 hpar;cases hz:n.name with|nil=>exact absurd hz this|cons=>rfl
      rw[hpar] at c0
      clear k0 hq hq1 hpar hps
      go_wp2_with fail
      go_ret
      exact⟨ret_bool F.out,HG.out.alloc _⟩
     ·have hpb:(n.parent== -1)=false:=by simp[hpar]
      clear k0 hq hq1 hps
      go_wp2_with fail
      go_ret
      exact⟨ret_bool F.out,HG.out.alloc _⟩
    ·have hq1:0≤n.parent→n.parent<k→nameOk n.name=false:=by simpa [hdrN,k0] using hq
     have kb:((k:Int)==0)=false:=by simp[k0]
     have kg:decide (0<k)=true:=by simp;omega
     clear hq
     by_cases q0:n.parent<0
     ·have p0:decide (n.parent<0)=true:=by simp;omega
      clear hps q0 k0
      go_wp2_with fail
      go_ret
      exact⟨ret_bool F.out,HG.out.alloc _⟩
     ·have p0:decide (n.parent<0)=false:=by simp;omega
      by_cases q1:(k:Int)≤n.parent
      ·have p1:decide ((k:Int)≤n.parent)=true:=by simp;omega
       clear hps q0 q1 k0
       go_wp2_with fail
       go_ret
       exact⟨ret_bool F.out,HG.out.alloc _⟩
      ·have p1:decide ((k:Int)≤n.parent)=false:=by simp;omega
       have p2:=hq1 (by omega) (by omega)
       clear hps q0 q1 k0 hq1
       go_wp2_with (go_at_call 140;refine(tokenName_any _ _).mono ?_;rintro e w' ⟨rfl,rfl⟩)
       go_ret
       exact⟨ret_bool F.out,HG.out.alloc _⟩
  ·go_wp2_with fail
   go_ret
   exact⟨ret_bool (named_iff.2 fun j hj=>HA.out j (by omega) hj).symm,HG.out⟩
/-! Rows of strings. -/
def strs(l:List St):List Value:=l.map (fun s=>Value.string (bs s))
theorem Row.sat{w:World}{B T:Nat}{l:List St}(h:Row w B T (strs l))(k:Nat)(hk:k<l.length):w.cell? ⟨B,k,none⟩=some (.string (bs l[k])):=by
 rw[h.cell k (by simpa [strs] using hk)];simp[strs]
theorem Row.sset{w:World}{B T:Nat}{l:List St}(h:Row w B T (strs l))(k:Nat)(s:St):Row (w.setCell ⟨B,k,none⟩ (.string (bs s))) B T (strs (l.set k s)):=by
 have e:strs (l.set k s)=(strs l).set k (.string (bs s)):=by simp[strs,List.map_set]
 rw[e];exact h.set k _
theorem made_one(z:Value)(n:Nat):(madeCells #[z] n).toList=List.replicate n z:=by
 apply List.ext_getElem
 ·simp[madeCells]
 ·intro i h1 h2
  simp[madeCells,Nat.mod_one]
theorem infoStr:(Tryz.prog.info? 9).map (fun i=>(i.zero,i.size,i.bytes))=some (some (.string (bs [])),1,16):=by kernel_rfl
/-! Climbing. -/
def OkRoot(ts:Tr):Prop:=∀(h:0<ts.length),ts[0].parent= -1
theorem named_par{ts:Tr}(h:namedT ts=true):OkPar ts:=by
 intro i hi h0
 have:=named_iff.1 h i hi
 rw[nodNm_eq,Bool.and_eq_true] at this
 have h1:i≠0:=by omega
 have:=this.1
 simp[hdrN,h1] at this
 exact⟨this.1.1,this.1.2⟩
theorem named_root{ts:Tr}(h:namedT ts=true):OkRoot ts:=by
 intro hi
 have:=named_iff.1 h 0 hi
 rw[nodNm_eq,Bool.and_eq_true] at this
 have:=this.1
 simp[hdrN] at this
 exact this.1
theorem par_lt{ts:Tr}(hp:OkPar ts)(hr:OkRoot ts){u:Nat}(h:u<ts.length): -1≤ts[u].parent∧ts[u].parent<u:=by
 by_cases h0:u=0
 ·subst h0;have:=hr h;omega
 ·have:=hp u h (by omega);omega
theorem climb_eq{ts:Tr}(hp:OkPar ts)(hr:OkRoot ts)(p:Int):∀(f g:Nat) (u:Int),u+1≤f→u+1≤g→ -1≤u→u<ts.length→climb ts p f u=climb ts p g u:=by
 intro f
 induction f with
 |zero=>
  intro g u h1 h2 h3 h4
  obtain rfl:u= -1:=by omega
  cases g<;>simp[climb]
 |succ f ih=>
  intro g u h1 h2 h3 h4
  by_cases h0:u<0
  ·cases g with
   |zero=>simp[climb,h0]
   |succ g=>simp[climb,h0]
  ·obtain⟨g,rfl⟩:∃g',g=g'+1:=⟨g-1,by omega⟩
   obtain⟨v,rfl⟩:∃v:Nat,u=v:=⟨u.toNat,by omega⟩
   rw[climb,climb,if_neg h0,if_neg h0]
   by_cases h5:(v:Int)=p
   ·rw[if_pos h5,if_pos h5]
   ·have:=par_lt hp hr (u:=v) (by omega)
    rw[if_neg h5,if_neg h5,par_get (by omega),ih g _ (by omega) (by omega) (by omega) (by omega)]
def clm(ts:Tr)(p:Int)(u:Int):Int:=climb ts p (u+1).toNat u
theorem clm_neg(ts:Tr)(p:Int){u:Int}(h:u<0):clm ts p u=u:=by
 unfold clm
 have:(u+1).toNat=0:=by omega
 rw[this];rfl
theorem clm_hit(ts:Tr){p u:Int}(h:0≤u)(e:u=p):clm ts p u=u:=by
 unfold clm
 obtain⟨f,hf⟩:∃f,(u+1).toNat=f+1:=⟨u.toNat,by omega⟩
 rw[hf,climb,if_neg (by omega),if_pos e]
theorem clm_go{ts:Tr}(hp:OkPar ts)(hr:OkRoot ts){p:Int}{u:Nat}(h:u<ts.length)(e:(u:Int)≠p):clm ts p u=clm ts p ts[u].parent:=by
 have:=par_lt hp hr h
 unfold clm
 have hf:((u:Int)+1).toNat=u+1:=by omega
 rw[hf,climb,if_neg (by omega),if_neg e,par_get h]
 exact climb_eq hp hr p _ _ _ (by omega) (by omega) (by omega) (by omega)
theorem clm_at{ts:Tr}(p:Int)(i:Nat):climb ts p i ((i:Int)-1)=clm ts p ((i:Int)-1):=by
 unfold clm
 have hf:((i:Int)-1+1).toNat=i:=by omega
 rw[hf]
theorem asc_iff{ps:List Prp}:ascP ps=true↔∀j (h:j+1<ps.length),ltS ps[j].name ps[j+1].name=true:=by
 unfold ascP
 rw[List.all_eq_true]
 constructor
 ·intro h j hj
  have:=h j (List.mem_range.2 (by omega))
  rwa [List.getD_eq_getElem?_getD,List.getD_eq_getElem?_getD,List.getElem?_eq_getElem (by omega),List.getElem?_eq_getElem hj] at this
 ·intro h j hj
  rw[List.mem_range] at hj
  rw[List.getD_eq_getElem?_getD,List.getD_eq_getElem?_getD,List.getElem?_eq_getElem (by omega),List.getElem?_eq_getElem (by omega)]
  exact h j (by omega)
theorem walkN_asc{ts:Tr}{i:Nat}{last:List St}(h:i<ts.length)(hw:walkN ts i=some last)(q:ascP ts[i].props=false):walkN ts (i+1)=none:=by
 rw[walkN,hw]
 simp only[List.getD_eq_getElem?_getD,List.getElem?_eq_getElem h,Option.getD_some,q]
 rfl
theorem walkN_zero{ts:Tr}{last:List St}(h:0<ts.length)(hw:walkN ts 0=some last)(q:ascP ts[0].props=true):walkN ts (0+1)=some last:=by
 rw[walkN,hw]
 simp only[List.getD_eq_getElem?_getD,List.getElem?_eq_getElem h,Option.getD_some,q]
 rfl
theorem walkN_neg{ts:Tr}{i:Nat}{last:List St}(h:i<ts.length)(h0:0<i)(hw:walkN ts i=some last)(q:ascP ts[i].props=true)(hn:clm ts ts[i].parent ((i:Int)-1)<0):walkN ts (i+1)=none:=by
 rw[walkN,hw]
 simp only[List.getD_eq_getElem?_getD,List.getElem?_eq_getElem h,Option.getD_some,q,if_true,clm_at]
 rw[if_neg (by omega),if_pos hn]
theorem walkN_low{ts:Tr}{i u:Nat}{last:List St}(h:i<ts.length)(h0:0<i)(hw:walkN ts i=some last)(q:ascP ts[i].props=true)(hn:clm ts ts[i].parent ((i:Int)-1)=u)(hu:u<last.length)(hl:ltS ts[i].name last[u]=true):walkN ts (i+1)=none:=by
 rw[walkN,hw]
 simp only[List.getD_eq_getElem?_getD,List.getElem?_eq_getElem h,Option.getD_some,q,if_true,clm_at,hn,Int.toNat_natCast,List.getElem?_eq_getElem hu,hl]
 rw[if_neg (by omega),if_neg (by omega)]
theorem walkN_set{ts:Tr}{i u:Nat}{last:List St}(h:i<ts.length)(h0:0<i)(hw:walkN ts i=some last)(q:ascP ts[i].props=true)(hn:clm ts ts[i].parent ((i:Int)-1)=u)(hu:u<last.length)(hl:ltS ts[i].name last[u]=false):walkN ts (i+1)=some (last.set u ts[i].name):=by
 rw[walkN,hw]
 simp only[List.getD_eq_getElem?_getD,List.getElem?_eq_getElem h,Option.getD_some,q,if_true,clm_at,hn,Int.toNat_natCast,List.getElem?_eq_getElem hu,hl]
 rw[if_neg (by omega),if_neg (by omega)]
 rfl
theorem walkN_none{ts:Tr}:∀{i k:Nat},i≤k→walkN ts i=none→walkN ts k=none:=by
 intro i k h
 induction h with
 |refl=>exact id
 |step _ ih=>intro q;rw[walkN,ih q]
theorem walk_no{ts:Tr}{i:Nat}(h:i<ts.length)(q:walkN ts (i+1)=none):false=(walkN ts ts.length).isSome:=by
 rw[walkN_none (by omega) q];rfl
theorem walked_any(ts:Tr)(a:Option Addr)(cap:Nat)(w:World)(h:SlOf 3 RNod w a ts)(hf:ts.length≤1000000)(hp:OkPar ts)(hr:OkRoot ts):
  Calls Tryz.prog 103 #[.agg #[.slice a ts.length cap]] w (Grows w (.bool (walkN ts ts.length).isSome)):=by
 have H:=Lib.hid h
 have HP:=Lib.hid hp
 have HR:=Lib.hid hr
 have hmk:=run_make_row' (P:=Tryz.prog) 22 9 (.string (bs [])) 16 Tryz.underlying22 infoStr rfl .i64 .i64 ts.length (by omega) (by omega)
 clear h hp hr
 go_enter Tryz.func103,Tryz.ntmps103
 go_wp2_with fail
 have RB:=Lib.hid (Row.new w #[.slice a ts.length cap] 31)
 obtain⟨W1,hW1⟩:∃W:World,Hid (W=w.alloc (.cells #[.slice a ts.length cap] 31)):=⟨_,Lib.hid rfl⟩
 have z1:Hid (W1.heap.size=w.heap.size+1):=Lib.hid (by rw[hW1.out];simp)
 rw[←hW1.out] at RB
 have G1:Hid (Gr w W1):=Lib.hid (by rw[hW1.out];exact(Gr.refl _).alloc _)
 have RL:=Lib.hid (Row.new W1 (madeCells #[.string (bs [])] ts.length) 9)
 obtain⟨W2,hW2⟩:∃W:World,Hid (W=W1.alloc (.cells (madeCells #[.string (bs [])] ts.length) 9)):=⟨_,Lib.hid rfl⟩
 rw[←hW2.out,made_one,z1.out,show List.replicate ts.length (Value.string (bs []))=strs (List.replicate ts.length []) by simp[strs]] at RL
 have G2:Hid (Gr W1 W2):=Lib.hid (by rw[hW2.out];exact(Gr.refl _).alloc _)
 have RB2:=Lib.hid (RB.out.gr G2.out)
 rw[←hW1.out,←hW2.out]
 have G3:=Lib.hid (G1.out.trans G2.out)
 obtain⟨SB,hSB⟩:∃N:Nat,Hid (w.heap.size+1=N):=⟨_,Lib.hid rfl⟩
 obtain⟨P0,hP0⟩:∃N:Nat,Hid (w.heap.size=N):=⟨_,Lib.hid rfl⟩
 rw[hSB.out] at RL
 rw[hSB.out,hP0.out]
 rw[hP0.out] at RB2
 have sb:=Lib.hid (show w.heap.size≤SB by have:=hSB.out;omega)
 have pb:=Lib.hid (show SB≠P0 by have:=hSB.out;have:=hP0.out;omega)
 clear RB G1 G2 z1 hW1 hW2 hSB hP0
 go_loopw [15] (fun i wr=>∃k:Nat,∃last:List St,k≤ts.length∧i= .int .i64 k∧walkN ts k=some last∧last.length=ts.length∧Row wr SB 9 (strs last)∧Row wr P0 31 [.slice a ts.length cap]∧Gr w wr) (fun i _=>ts.length-(intOf i).toNat)
 case atStart=>exact⟨0,_,Nat.zero_le _,rfl,rfl,by simp,RL.out,RB2.out,G3.out⟩
 case round=>
  obtain⟨k,last,hk,rfl,hwn,hll,hrl,hrb,hg⟩:=hrel
  have HW:=Lib.hid hwn
  have HL:=Lib.hid hll
  have HRL:=Lib.hid hrl
  have HRB:=Lib.hid hrb
  have HG:=Lib.hid hg
  clear hwn hll hrl hrb hg
  by_cases hlt:k<ts.length
  ·obtain⟨b,o,pa,pc,rfl,c0,c1,c2,hps,hpf,hw,hnl⟩:=nods_at (H.out.gr RNod.mono HG.out) k hlt
   obtain⟨n,hn⟩:∃n,n=ts[k]:=⟨_,rfl⟩
   have HN:=Lib.hid hn
   rw[←hn] at c0 c1 c2 hps hpf hw hnl
   clear hn
   have hh:=has_of_cell c0
   have HPS:=Lib.hid hps
   unfold Fit at hpf
   clear hps
   go_wp2_with fail
   have RX:=Lib.hid (Row.new wr #[.int .i64 n.parent,.string (bs n.name),.slice pa n.props.length pc] 55)
   obtain⟨E,hE⟩:∃W:World,Hid (W=wr.alloc (.cells #[.int .i64 n.parent,.string (bs n.name),.slice pa n.props.length pc] 55)):=⟨_,Lib.hid rfl⟩
   have GE:Hid (Gr wr E):=Lib.hid (by rw[hE.out];exact(Gr.refl _).alloc _)
   rw[←hE.out] at RX ⊢
   obtain⟨NX,hNX⟩:∃N:Nat,Hid (wr.heap.size=N):=⟨_,Lib.hid rfl⟩
   rw[hNX.out] at RX ⊢
   clear hE hNX c0 c1 c2 hh
   have HE:=Lib.hid (HG.out.trans GE.out)
   have HRLE:=Lib.hid (HRL.out.gr GE.out)
   have HRBE:=Lib.hid (HRB.out.gr GE.out)
   have HPE:=Lib.hid (HPS.out.gr RPrp.mono GE.out)
   clear HRL HRB GE HG HPS
   go_loopw [6] (fun i wr=>∃m:Nat,1≤m∧(m=1∨m≤n.props.length)∧i= .int .i64 m∧(∀j (hj:j+1<m) (hjl:j+1<n.props.length),ltS n.props[j].name n.props[j+1].name=true)∧Gr E wr) (fun i _=>n.props.length-(intOf i).toNat)
   case atStart=>exact⟨1,by omega,.inl rfl,rfl,fun j h=>absurd h (by omega),Gr.refl _⟩
   case round=>
    obtain⟨m,hm1,hm,rfl,hal,hg⟩:=hrel
    have HB:=Lib.hid hal
    have HJ:=Lib.hid hg
    have RX2:=RX.out.gr hg
    have c0:wr.cell? ⟨NX,0,none⟩=some (.int .i64 n.parent):=RX2.cell 0 (by simp)
    have c1:wr.cell? ⟨NX,1,none⟩=some (.string (bs n.name)):=RX2.cell 1 (by simp)
    have c2:wr.cell? ⟨NX,2,none⟩=some (.slice pa n.props.length pc):=RX2.cell 2 (by simp)
    clear hal hg RX2
    by_cases hml:m<n.props.length
    ·obtain⟨b2,o2,rfl,d0,d1,l0,l1⟩:=prps_at (HPE.out.gr RPrp.mono HJ.out) m hml
     obtain⟨b3,o3,e3,f0,f1,l2,l3⟩:=prps_at (HPE.out.gr RPrp.mono HJ.out) (m-1) (by omega)
     cases e3
     have hh2:=has_of_cell d0
     have hi:(1:Int)≤m:=by omega
     clear hm
     by_cases hv:ltS (n.props[m-1]'(by omega)).name n.props[m].name=true
     ·have hv':Op.bytesLess (n.props[m-1]'(by omega)).name n.props[m].name=true:=hv
      have V:=Lib.hid hv
      clear hv d1 f1
      go_wp2_with fail
      go_quiet (fail)
      go_wp2_with fail
      go_roundw
      case rel=>
       refine⟨m+1,by omega,.inr (by omega),by go_num,fun j hj hjl=>?_,HJ.out.drewN _⟩
       by_cases e:j=m-1
       ·subst e
        have:=V.out
        have e2:m-1+1=m:=by omega
        simpa only[e2] using this
       ·exact HB.out j (by omega) hjl
      case measure=>simp[intOf];omega
     ·have hv':Op.bytesLess (n.props[m-1]'(by omega)).name n.props[m].name=false:=by rwa [Bool.not_eq_true] at hv
      have V:=Lib.hid hv
      clear hv d1 f1
      go_wp2_with fail
      go_quiet (fail)
      go_wp2_with fail
      go_ret
      refine⟨ret_bool (walk_no hlt (walkN_asc hlt HW.out ?_)),(HE.out.trans HJ.out).drewN _⟩
      rw[←HN.out,←Bool.not_eq_true,asc_iff]
      intro q
      have:=q (m-1) (by omega)
      have e2:m-1+1=m:=by omega
      simp only[e2] at this
      exact V.out this
    ·have AS:Hid (ascP ts[k].props=true):=Lib.hid (asc_iff.2 (by rw[←HN.out];intro j hj;exact HB.out j (by omega) hj))
     have HRL2:=Lib.hid (HRLE.out.gr HJ.out)
     have HRB2:=Lib.hid (HRBE.out.gr HJ.out)
     have HE2:=Lib.hid (HE.out.trans HJ.out)
     clear hm1 hm HB
     by_cases k0:k=0
     ·have kb:((k:Int)==0)=true:=by simp[k0]
      have K0:=Lib.hid k0
      clear k0
      go_wp2_with fail
      go_roundw
      case rel=>
       refine⟨k+1,last,by omega,by go_num,?_,HL.out,HRL2.out,HRB2.out,HE2.out⟩
       have:=K0.out
       subst this
       exact walkN_zero hlt HW.out AS.out
      case measure=>simp[intOf];omega
     ·have kb:((k:Int)==0)=false:=by simp[k0]
      have K0:=Lib.hid (show 0<k by omega)
      have hi1:(1:Int)≤k:=by omega
      have b0:wr.cell? ⟨P0,0,none⟩=some (.slice (some ⟨b,o,none⟩) ts.length cap):=HRB2.out.cell 0 (by simp)
      clear k0
      go_wp2_with fail
      go_loop [7] (fun u=>∃x:Int,u= .int .i64 x∧ -1≤x∧x<k∧clm ts n.parent x=clm ts n.parent ((k:Int)-1)) (fun u=>(intOf u+1).toNat)
      case atStart=>exact⟨(k:Int)-1,by go_num,by omega,by omega,rfl⟩
      case round=>
       obtain⟨x,rfl,hx1,hxk,hcx⟩:=hrel
       have CX:=Lib.hid hcx
       clear hcx
       by_cases hx:x<0
       ·have hb:decide (0≤x)=false:=by simp;omega
        have hb2:decide (x<0)=true:=by simp;omega
        have CL:Hid (clm ts n.parent ((k:Int)-1)<0):=Lib.hid (by rw[←CX.out,clm_neg _ _ hx];exact hx)
        clear CX
        go_wp2_with fail
        go_quiet (fail)
        go_wp2_with fail
        go_ret
        exact⟨ret_bool (walk_no hlt (walkN_neg hlt K0.out HW.out AS.out (by rw[←HN.out];exact CL.out))),HE2.out.drewN _⟩
       ·have hb:decide (0≤x)=true:=by simp;omega
        have hb2:decide (x<0)=false:=by simp;omega
        obtain⟨u,rfl⟩:∃u:Nat,x=u:=⟨x.toNat,by omega⟩
        have huk:u<k:=by omega
        have hul:u<ts.length:=by omega
        by_cases hu:(u:Int)=n.parent
        ·have CL:Hid (clm ts ts[k].parent ((k:Int)-1)=u):=Lib.hid (by rw[←HN.out,←CX.out,clm_hit _ (by omega) hu])
         have hub:((u:Int)==n.parent)=true:=by simp[hu]
         have hub2:((u:Int) !=n.parent)=false:=by simp[hu]
         have hlu:u<last.length:=by rw[HL.out];exact hul
         have s0:=HRL2.out.sat u hlu
         have sf:=HRL2.out.free u
         have sh:=HRL2.out.has
         obtain⟨z,hz⟩:∃z,last[u]=z:=⟨_,rfl⟩
         rw[hz] at s0
         have HZ:=Lib.hid hz
         have HU:=Lib.hid hu
         have hll2:u<ts.length:=hul
         clear hz hu CX hx hb hx1
         by_cases hv:Op.bytesLess n.name z=true
         ·go_wp2_with fail
          go_quiet (fail)
          go_wp2_with fail
          go_ret
          exact⟨ret_bool (walk_no hlt (walkN_low hlt K0.out HW.out AS.out CL.out hlu (by rw[←HN.out,HZ.out];exact hv))),HE2.out.drewN _⟩
         ·rw[Bool.not_eq_true] at hv
          go_wp2_with fail
          go_quiet (fail)
          go_wp2_with fail
          go_roundw
          case rel=>
           refine⟨k+1,last.set u n.name,by omega,by go_num,?_,by rw[List.length_set];exact HL.out,?_,?_,?_⟩
           ·have:=walkN_set hlt K0.out HW.out AS.out CL.out hlu (by rw[←HN.out,HZ.out];exact hv)
            rw[this,HN.out]
           ·exact(HRL2.out.drewN _).sset u n.name
           ·exact(HRB2.out.drewN _).oth pb.out
           ·exact(HE2.out.drewN _).setc sb.out
          case measure=>simp[intOf];omega
        ·have hub:((u:Int)==n.parent)=false:=by simp[hu]
         have hub2:((u:Int) !=n.parent)=true:=by simp[hu]
         have PL:=par_lt HP.out HR.out hul
         have CL:Hid (clm ts n.parent ts[u].parent=clm ts n.parent ((k:Int)-1)):=Lib.hid (by rw[←clm_go HP.out HR.out hul hu];exact CX.out)
         obtain⟨b4,o4,pa4,pc4,e4,g0,_⟩:=nods_at ((H.out.gr RNod.mono HE2.out)) u hul
         cases e4
         obtain⟨q,hq⟩:∃q,ts[u].parent=q:=⟨_,rfl⟩
         rw[hq] at g0
         have HQ:=Lib.hid hq
         rw[hq] at PL CL
         have hh4:=has_of_cell g0
         clear hq hu CX
         go_wp2_with fail
         go_round
         case rel=>exact⟨q,rfl,by omega,by omega,CL.out⟩
         case measure=>simp[intOf];omega
  ·have hk':k=ts.length:=by omega
   go_wp2_with fail
   go_ret
   exact⟨ret_bool (by rw[←hk',HW.out];rfl),HG.out⟩
end Go.Proofs.YtdjhnfopdlgliaaGreat
namespace Go.Proofs.YtdjhnfopdlgliaaGreat
open Go.RowKit Go.Maps
open Go.ChangeMaps (setBlock)
theorem laidOutT:laidOutB Tryz.prog=true:=by kernel_rfl
theorem rowLb:(149:TypeId)<Tryz.prog.types.size:=of_decide_eq_true (by kernel_rfl)
theorem wideLb:(match Tryz.prog.underlying 149 with|some (.array _ _)|some (.struct _)=>true|_=>false)=true:=by rw[Tryz.underlying149]
theorem keyedLb:Maps.Keyed Tryz.prog 149:=Maps.Keyed.of_law (deep_law_laid laidOutT (m:=2) (by omega) rowLb (by kernel_rfl) wideLb)
def keyV(k:St×Int):Value:= .agg #[.string (bs k.1),.int .i64 k.2]
theorem keyV_inj{a b:St×Int}(h:keyV a=keyV b):a=b:=by
 simp only[keyV,Value.agg.injEq,Array.mk.injEq,List.cons.injEq,Value.string.injEq,Value.int.injEq,true_and,and_true] at h
 exact Prod.ext (bs_inj h.1) h.2
theorem keyOfLb(s:St)(i:Int)(hs:s.length≤1000)(hi:Wide i):∃l,keyOf Tryz.prog 149 (keyV (s,i))=some l:=by
 unfold Wide at hi
 have hu:=Tryz.underlying149
 have h0:Tryz.prog.keyType 149=true:=by kernel_rfl
 have h1:Tryz.prog.cellsOf 149=2:=by kernel_rfl
 have h2:Tryz.prog.cellsOf 9=1:=by kernel_rfl
 have h3:Tryz.prog.cellsOf 3=1:=by kernel_rfl
 obtain⟨m,hm⟩:∃m,Tryz.prog.types.size+1=m+2:=⟨Tryz.prog.types.size-1,by have:(149:Nat)<Tryz.prog.types.size:=rowLb;omega⟩
 have h4:Value.formed Tryz.prog 149 (keyV (s,i))=true:=by simp[Value.formed,keyV,hu,h1]
 rw[keyOf,hu]
 simp only[h0,h4,hm]
 simp only[Program.keyLits,hu,keyV,Value.cells,h1,h2,h3,Tryz.underlying9,Tryz.underlying3]
 have hw:(Lit.int .i64 i).wf=true:=WalkArith.wf_i64 hi
 have hsz:s.length≤maxLen:=by unfold maxLen;omega
 simp[h2,h3,Tryz.underlying9,Tryz.underlying3,hw,hsz]
def KS(w:World)(B:Nat)(ks:List (St×Int)):Prop:=
 ∃es clk,w.heap[B]?=some (.map es clk)∧es.toList.map (fun e=>e.key)=ks.map keyV∧(∀e∈es.toList,e.val= .bool true)∧∀k∈ks,k.1.length≤1000∧Wide k.2
theorem KS.keys{ks:List (St×Int)}{es:Array MapEntry}(h1:es.toList.map (fun e=>e.key)=ks.map keyV)(h2:∀k∈ks,k.1.length≤1000∧Wide k.2):∀e∈es.toList,∃l,keyOf Tryz.prog 149 e.key=some l:=by
 intro e he
 have:e.key∈es.toList.map (fun e=>e.key):=List.mem_map.2 ⟨e,he,rfl⟩
 rw[h1] at this
 obtain⟨k,hk,e2⟩:=List.mem_map.1 this
 rw[←e2]
 exact keyOfLb k.1 k.2 (h2 k hk).1 (h2 k hk).2
theorem KS.look{w:World}{B:Nat}{ks:List (St×Int)}(h:KS w B ks)(k:St×Int)(hk:k.1.length≤1000∧Wide k.2):
  (Instr.lookup 165 (.map (some B)) (keyV k) false).run Tryz.prog w= .ok (.bool (ks.contains k)) w:=by
 obtain⟨es,clk,hb,he,hv,hw⟩:=h
 obtain⟨l,hl⟩:=keyOfLb k.1 k.2 hk.1 hk.2
 rcases keyedLb.find w hl es.toList (KS.keys he hw) with⟨h1,h2⟩|⟨j,e0,h1,h2,h3⟩
 ·have hc:ks.contains k=false:=by
   rw[←Bool.not_eq_true,List.contains_iff_mem]
   intro hm
   have:keyV k∈es.toList.map (fun e=>e.key):=by rw[he];exact List.mem_map.2 ⟨k,hm,rfl⟩
   obtain⟨e,he2,e3⟩:=List.mem_map.1 this
   exact h2 e he2 e3
  rw[hc]
  simp[Instr.lookup,run_underlying Tryz.underlying165,MapKept.run_getObj_map hb,keyedLb.check w _ hl,h1,Result.andThen]
 ·have hm:e0∈es.toList:=List.mem_of_getElem? h2
  have hc:ks.contains k=true:=by
   rw[List.contains_iff_mem]
   have:e0.key∈es.toList.map (fun e=>e.key):=List.mem_map.2 ⟨e0,hm,rfl⟩
   rw[he,h3] at this
   obtain⟨k2,hk2,e2⟩:=List.mem_map.1 this
   have e4:=keyV_inj (b:=k) e2
   rw[←e4];exact hk2
  rw[hc]
  simp[Instr.lookup,run_underlying Tryz.underlying165,MapKept.run_getObj_map hb,keyedLb.check w _ hl,h1,Result.andThen,hv e0 hm]
theorem KS.put{w:World}{B:Nat}{ks:List (St×Int)}(h:KS w B ks)(k:St×Int)(hk:k.1.length≤1000∧Wide k.2)(hn:ks.contains k=false):
  ∃o,(Instr.mapUpdate 165 (.map (some B)) (keyV k) (.bool true)).run Tryz.prog w= .ok () (setBlock w B o)∧KS (setBlock w B o) B (ks++ [k]):=by
 obtain⟨es,clk,hb,he,hv,hw⟩:=h
 obtain⟨l,hl⟩:=keyOfLb k.1 k.2 hk.1 hk.2
 rcases keyedLb.find w hl es.toList (KS.keys he hw) with⟨h1,h2⟩|⟨j,e0,h1,h2,h3⟩
 ·refine⟨.map (es.push ⟨keyV k,.bool true,clk⟩) (clk+1),?_,es.push ⟨keyV k,.bool true,clk⟩,clk+1,?_,?_,?_,?_⟩
  ·simp[Instr.mapUpdate,run_underlying Tryz.underlying165,MapKept.run_getObj_map hb,keyedLb.check w _ hl,h1,MapKept.run_setObj_map _ hb,Result.andThen,setBlock]
  ·have hB:B<w.heap.size:=(Array.getElem?_eq_some_iff.1 hb).1
   simp[setBlock,hB]
  ·simp[he]
  ·intro e hm
   simp only[Array.toList_push,List.mem_append,List.mem_singleton] at hm
   rcases hm with q|rfl
   ·exact hv e q
   ·rfl
  ·intro k2 hm
   rcases List.mem_append.1 hm with q|q
   ·exact hw k2 q
   ·rw[List.mem_singleton] at q;subst q;exact hk
 ·exfalso
  have hm:e0∈es.toList:=List.mem_of_getElem? h2
  have:e0.key∈es.toList.map (fun e=>e.key):=List.mem_map.2 ⟨e0,hm,rfl⟩
  rw[he,h3] at this
  obtain⟨k2,hk2,e2⟩:=List.mem_map.1 this
  rw[←Bool.not_eq_true,List.contains_iff_mem] at hn
  have e4:=keyV_inj (b:=k) e2
  exact hn (by rw[←e4];exact hk2)
end Go.Proofs.YtdjhnfopdlgliaaGreat
