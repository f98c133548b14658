/- Lemmas and contracts for the proof of RetuneAnswers (several texts in one, printed by wip/tools/pack.py): Shelf SoI ChA RkA. -/
import Derived.Shelf.Sort.Plain
import Derived.Test.YtenehghpmnajpaaGreatDoorProg
import Derived.Test.YtenehghpmnajpaaGreatDoorRa8pp
import Derived.Test.YtenehghpmnajpaaGreatDoorRa8pm
import Derived.Maps.RangeWalk
import Derived.Test.YtenehghpmnajpaaGreatDoorRa8pn
set_option maxRecDepth 100000
set_option maxHeartbeats 16000000
namespace Go.Proofs
open Go.Shelf
def Tryz.lays189_ren : Go.Shelf.Ren := ⟨fun | 189 => 84 | 125 => 121 | 257 => 120 | 128 => 149 | 129 => 150 | 294 => 140 | 295 => 141 | 296 => 142 | 297 => 143 | 298 => 144 | 299 => 145 | 216 => 146 | 300 => 147 | 301 => 148 | 328 => 159 | 329 => 160 | 330 => 161 | 331 => 162 | 332 => 163 | 215 => 164 | 343 => 167 | n => n, fun | 28 => 22 | 3 => 3 | 46 => 163 | 0 => 0 | 51 => 183 | 53 => 99 | 4 => 4 | 183 => 177 | 182 => 176 | 131 => 132 | 5 => 5 | 9 => 9 | 218 => 189 | 222 => 193 | 228 => 196 | 229 => 155 | n => n, fun | n => n⟩
theorem Tryz.lays189 : Go.Proofs.Lays.n189 Tryz.prog Tryz.lays189_ren := {
  mixed := by kernel_rfl
  f125 := Tryz.func121.trans (congrArg some (by kernel_rfl))
  f128 := Tryz.func149.trans (congrArg some (by kernel_rfl))
  f129 := Tryz.func150.trans (congrArg some (by kernel_rfl))
  f189 := Tryz.func84.trans (congrArg some (by kernel_rfl))
  f215 := Tryz.func164.trans (congrArg some (by kernel_rfl))
  f216 := Tryz.func146.trans (congrArg some (by kernel_rfl))
  f257 := Tryz.func120.trans (congrArg some (by kernel_rfl))
  f294 := Tryz.func140.trans (congrArg some (by kernel_rfl))
  f295 := Tryz.func141.trans (congrArg some (by kernel_rfl))
  f296 := Tryz.func142.trans (congrArg some (by kernel_rfl))
  f297 := Tryz.func143.trans (congrArg some (by kernel_rfl))
  f298 := Tryz.func144.trans (congrArg some (by kernel_rfl))
  f299 := Tryz.func145.trans (congrArg some (by kernel_rfl))
  f300 := Tryz.func147.trans (congrArg some (by kernel_rfl))
  f301 := Tryz.func148.trans (congrArg some (by kernel_rfl))
  f328 := Tryz.func159.trans (congrArg some (by kernel_rfl))
  f329 := Tryz.func160.trans (congrArg some (by kernel_rfl))
  f330 := Tryz.func161.trans (congrArg some (by kernel_rfl))
  f331 := Tryz.func162.trans (congrArg some (by kernel_rfl))
  f332 := Tryz.func163.trans (congrArg some (by kernel_rfl))
  f343 := Tryz.func167.trans (congrArg some (by kernel_rfl))
  t0 := Tryz.underlying0
  a0 := Tryz.isAgg0
  z0 := Tryz.sizeOf0
  v0 := Tryz.zeroValue0
  t3 := Tryz.underlying3
  a3 := Tryz.isAgg3
  z3 := Tryz.sizeOf3
  v3 := Tryz.zeroValue3
  t4 := Tryz.underlying4
  a4 := Tryz.isAgg4
  z4 := Tryz.sizeOf4
  v4 := Tryz.zeroValue4
  t5 := Tryz.underlying5
  a5 := Tryz.isAgg5
  z5 := Tryz.sizeOf5
  v5 := Tryz.zeroValue5
  t9 := Tryz.underlying9
  a9 := Tryz.isAgg9
  z9 := Tryz.sizeOf9
  v9 := Tryz.zeroValue9
  t28 := Tryz.underlying22
  a28 := Tryz.isAgg22
  z28 := Tryz.sizeOf22
  v28 := Tryz.zeroValue22
  t46 := Tryz.underlying163
  a46 := Tryz.isAgg163
  z46 := Tryz.sizeOf163
  v46 := Tryz.zeroValue163
  t51 := Tryz.underlying183
  a51 := Tryz.isAgg183
  z51 := Tryz.sizeOf183
  v51 := Tryz.zeroValue183
  t53 := Tryz.underlying99
  a53 := Tryz.isAgg99
  z53 := Tryz.sizeOf99
  v53 := Tryz.zeroValue99
  t131 := Tryz.underlying132
  a131 := Tryz.isAgg132
  z131 := Tryz.sizeOf132
  v131 := Tryz.zeroValue132
  t182 := Tryz.underlying176
  a182 := Tryz.isAgg176
  z182 := Tryz.sizeOf176
  v182 := Tryz.zeroValue176
  t183 := Tryz.underlying177
  a183 := Tryz.isAgg177
  z183 := Tryz.sizeOf177
  v183 := Tryz.zeroValue177
  t218 := Tryz.underlying189
  a218 := Tryz.isAgg189
  z218 := Tryz.sizeOf189
  v218 := Tryz.zeroValue189
  t222 := Tryz.underlying193
  a222 := Tryz.isAgg193
  z222 := Tryz.sizeOf193
  v222 := Tryz.zeroValue193
  t228 := Tryz.underlying196
  a228 := Tryz.isAgg196
  z228 := Tryz.sizeOf196
  v228 := Tryz.zeroValue196
  t229 := Tryz.underlying155
  a229 := Tryz.isAgg155
  z229 := Tryz.sizeOf155
  v229 := Tryz.zeroValue155 }
open Go.Sort Go.RowKit in
theorem Tryz.slices_Sort_int (blk off cap : Nat) (zs : List Int) (w : World) (hH : Holds (Value.int .i64) w blk off zs.toArray) (hblk : blk < w.heap.size) (hsz : zs.length < 4611686018427387904) :
    Calls Tryz.prog 84 #[.slice (some ⟨blk, off, none⟩) zs.length cap] w fun e w' =>
      e = .returned (.tuple #[]) ∧ ∃ n os, w' = grow (putRow (Value.int .i64) (Sort.ahead w n) blk off (zs.mergeSort fun x y => decide (x ≤ y)).toArray) os := Any.slices_Sort_int Tryz.lays189 blk off cap zs w hH hblk hsz
end Go.Proofs

set_option linter.unusedVariables false
set_option linter.unusedSimpArgs false
namespace Go.Proofs.YtenehghpmnajpaaGreatDoor
open Go.RowKit
open Classical
def srt (zs : List Int) : List Int := zs.mergeSort (fun x y => decide (x ≤ y))
theorem srt_len (zs : List Int) : (srt zs).length = zs.length := List.length_mergeSort _
def SortsI (w : World) (base : Nat) (v : Value) (zs : List Int) (e : Ending) (w' : World) : Prop := e = .returned (.tuple #[]) ∧ w'.ownsRow base 3 1 v zs.length (nums (srt zs)) ∧ w.grownBy w' v.ownBlock
theorem put_block {w : World} {g e q : Nat} {cur : Array Value} (hb : w.heap[g]? = some (.cells cur e (0, 0))) (d : Array Int) (os : Array Obj) :
    (Sort.grow (Sort.putRow (Value.int .i64) (Sort.ahead w q) g 0 d) os).heap[g]? = some (.cells (Sort.putCells (Value.int .i64) 0 d cur) e (0, 0)) := by
  have hg := (Array.getElem?_eq_some_iff.1 hb).1
  simp only [Sort.grow, Sort.putRow, Sort.mapBlock, Sort.ahead]
  rw [Array.getElem?_append_left (by simpa using hg), Array.getElem?_modify, if_pos rfl, hb]
  rfl
theorem put_grown {w : World} {g q : Nat} (d : Array Int) (os : Array Obj) : w.grownBy (Sort.grow (Sort.putRow (Value.int .i64) (Sort.ahead w q) g 0 d) os) (some g) := by
  refine ⟨rfl, rfl, rfl, ?_, fun k hk hne => ?_⟩
  · simp [Sort.grow, Sort.putRow, Sort.mapBlock, Sort.ahead]
  · simp only [Sort.grow, Sort.putRow, Sort.mapBlock, Sort.ahead]
    rw [Array.getElem?_append_left (by simpa using hk), Array.getElem?_modify, if_neg (fun e => hne (by rw [e]))]
theorem put_take {cur : Array Value} {d : Array Int} {m : Nat} (hd : d.size ≤ cur.size) (hm : m ≤ d.size) : (Sort.putCells (Value.int .i64) 0 d cur).toList.take m = nums (d.toList.take m) := by
  apply List.ext_getElem
  · simp [Sort.putCells, nums]; omega
  · intro k h1 h2
    have hk : k < m := by simp [Sort.putCells] at h1; omega
    simp only [Sort.putCells, List.getElem_take, Array.getElem_toList, Array.getElem_mapIdx, nums, List.getElem_map]
    rw [if_pos (by omega), Nat.sub_zero, getElem!_pos d k (by omega)]
theorem put_size (d : Array Int) (cur : Array Value) : (Sort.putCells (Value.int .i64) 0 d cur).size = cur.size := by simp [Sort.putCells]
theorem own_holds {w : World} {g : Nat} {cur : Array Value} {zs : List Int} (hb : w.heap[g]? = some (.cells cur 3 (0, 0))) (ht : cur.toList.take (zs.length * 1) = nums zs) : Sort.Holds (Value.int .i64) w g 0 zs.toArray := by
  have hr : RowS w g 3 (nums zs) := ⟨cur.toList.drop (zs.length * 1), by rw [← ht, List.take_append_drop]; exact hb⟩
  intro j hj
  have hj' : j < zs.length := by simpa using hj
  refine ⟨?_, hr.free _⟩
  rw [Nat.zero_add, hr.iat j hj', getElem!_pos zs.toArray j hj]
  simp
theorem sortI_any (zs : List Int) (v : Value) (base : Nat) (w : World) (h : w.ownsRow base 3 1 v zs.length (nums zs)) (h0 : zs ≠ []) (hf : zs.length ≤ 1000000) :
    Calls Tryz.prog 84 #[v] w (SortsI w base v zs) := by
  obtain ⟨_, ⟨rfl, hn⟩ | ⟨g, cap, cur, rfl, hb, hg, hnc, hcm, hcs, htk⟩⟩ := h
  · exact absurd (List.eq_nil_of_length_eq_zero hn) h0
  · refine (Tryz.slices_Sort_int g 0 cap zs w (own_holds hg htk) (Array.getElem?_eq_some_iff.1 hg).1 (by omega)).mono ?_
    rintro e w' ⟨rfl, q, os, rfl⟩
    refine ⟨rfl, ⟨by simp [nums, srt_len], .inr ⟨g, cap, _, rfl, hb, put_block hg _ _, hnc, hcm, by rw [put_size]; exact hcs, ?_⟩⟩, put_grown _ _⟩
    have hl : (zs.mergeSort fun x y => decide (x ≤ y)).length = zs.length := srt_len zs
    rw [Nat.mul_one, put_take (by simp only [List.size_toArray]; omega) (by simp only [List.size_toArray]; omega)]
    simp only [List.take_of_length_le (show (zs.mergeSort fun x y => decide (x ≤ y)).length ≤ zs.length by omega), srt]
theorem ranges_owns {w : World} {k B R n cnt base e size m : Nat} {E : Value → Option (DataW Unit × List MemPlace)} {D : DataW Unit} {left : Lit → Bool} {v : Value} {xs : List Value} (h : w.ranges Tryz.prog k E B R n D left cnt) (o : w.ownsRow base e size v m xs) : some B ≠ v.ownBlock ∧ some R ≠ v.ownBlock := by
  obtain ⟨es, clock, since, seen, c0, hb, _, _, _, hr, _⟩ := h
  obtain ⟨_, ⟨rfl, _⟩ | ⟨g', cap, cur, rfl, _, hg', _⟩⟩ := o
  · simp [Value.ownBlock]
  · constructor
    · intro e
      have : B = g' := by simpa [Value.ownBlock] using e
      subst this
      rw [hb] at hg'; cases hg'
    · intro e
      have : R = g' := by simpa [Value.ownBlock] using e
      subst this
      rw [hr] at hg'; cases hg'
structure HSt (l : List Clk) (ms : List Lmt) (al am : Option Addr) (cl cm BK XP BI BM : Nat) (cs : List (List Int)) (w : World) (k : Nat) (wr : World) : Prop where
  pb : PB l ms al am cl cm BK XP w w wr
  bi : Row wr BI 125 [.map (some BM)]
  map : MapB wr BM (entV l (cs.take k))
  ris : risTo l (calS l ms) cs k
section
variable {l : List Clk} {ms : List Lmt} {al am : Option Addr} {cl cm BK XP BI BM : Nat} {cs : List (List Int)} {w : World} {k : Nat} {wr w' : World}
theorem HSt.grow (h : HSt l ms al am cl cm BK XP BI BM cs w k wr) (hg : Gr wr w') : HSt l ms al am cl cm BK XP BI BM cs w k w' := ⟨h.pb.grow hg, h.bi.gr hg, h.map.gr hg, h.ris⟩
theorem HSt.known (h : HSt l ms al am cl cm BK XP BI BM cs w k wr) (h0 : w.heap.size ≤ BK) (hne : BM ≠ BK) (hg : wr.grownBy w' (some BK)) (hk : Kn w' BK l (calS l ms)) : HSt l ms al am cl cm BK XP BI BM cs w k w' where
  pb := by
    have nx : BK ≠ XP := by obtain ⟨V9, hm9, _⟩ := h.pb.kn; exact hm9.ne_row h.pb.box
    exact ⟨h.pb.box.grown hg (by intro e; injection e with e; exact nx e.symm), hk, h.pb.gr.grown hg (fun k e => by injection e with e; omega), Nat.le_trans h.pb.size hg.size⟩
  bi := by
    have nx : BK ≠ BI := by obtain ⟨V9, hm9, _⟩ := h.pb.kn; exact hm9.ne_row h.bi
    exact h.bi.grown hg (by intro e; injection e with e; exact nx e.symm)
  map := h.map.kept hg (by intro e; injection e with e; exact hne e)
  ris := h.ris
theorem HSt.put (h : HSt l ms al am cl cm BK XP BI BM cs w k wr) (h0 : w.heap.size ≤ BM) (hne : BM ≠ BK) (hk : k < cs.length) (hc : calS l ms cs[k] = true) (hlt : lastN l cs k < num l cs[k]) (hg : wr.grownBy w' (some BM)) (hm : MapB w' BM (entV l (cs.take k) ++ [(num l cs[k], true)])) : HSt l ms al am cl cm BK XP BI BM cs w (k + 1) w' where
  pb := by
    have nx := h.map.ne_row h.pb.box
    exact ⟨h.pb.box.grown hg (by intro e; injection e with e; exact nx e.symm), h.pb.kn.kept hg (by intro e; injection e with e; exact hne e.symm), h.pb.gr.grown hg (fun k e => by injection e with e; omega), Nat.le_trans h.pb.size hg.size⟩
  bi := by
    have nx := h.map.ne_row h.bi
    exact h.bi.grown hg (by intro e; injection e with e; exact nx e.symm)
  map := by rw [entV_snoc hk]; exact hm
  ris := ⟨h.ris, by rw [getD_at hk]; exact hc, by rw [getD_at hk]; exact hlt⟩
end
/-! The loop over the map. -/
section
variable {l : List Clk} {base BW BI BM BR : Nat} {cs : List (List Int)} {D : DataW Unit} {left left' : Lit → Bool} {cnt cnt' : Nat} {b : Bool} {w w' : World} {L : List Nat}
theorem ranges_row {T : Nat} {vs : List Value} {C : Nat} {E : Value → Option (DataW Unit × List MemPlace)} {n k : Nat} (h : w.ranges Tryz.prog k E BM BR n D left cnt) (r : Row w C T vs) : BM ≠ C ∧ BR ≠ C := by
  obtain ⟨es, clock, since, seen, c0, hb, _, _, _, hr, _⟩ := h
  constructor
  · rintro rfl
    unfold Row at r
    rw [r] at hb; cases hb
  · rintro rfl
    unfold Row at r
    rw [r] at hr; cases hr
theorem CSt.next (h : CSt l base BW BI BM BR cs D left cnt b w L) (hr : w'.ranges Tryz.prog 3 (plainElem Tryz.prog 4) BM BR cs.length D left' cnt') (hg : w.grownBy w' (some BR)) : CSt l base BW BI BM BR cs D left' cnt' b w' L where
  whole := h.whole.grown hg (by intro e; injection e with e; exact (ranges_row h.it h.whole).2 e.symm)
  box := h.box.grown hg (by intro e; injection e with e; exact (ranges_row h.it h.box).2 e.symm)
  it := hr
  has := h.has
  at' := h.at'
  off := h.off
  low := h.low
theorem CSt.has4 (h : CSt l base BW BI BM BR cs D left cnt b w L) : Has w BW ∧ Has w BI ∧ Has w BM ∧ Has w BR := ⟨h.whole.has, h.box.has, h.map.has, h.it.lt⟩
theorem CSt.start (h : CSt l base BW BI BM BR cs D left cnt b w L) : ∀ w1 L', Gr w w1 → (∀ b ∈ L', b ∈ L ∨ w.heap.size ≤ b) → CSt l base BW BI BM BR cs D left cnt b w1 L' := fun w1 L' hg hL => by
  have hn : ∀ c, Has w c → c ∉ L → c ∉ L' := fun c hc hn hm => by
    rcases hL c hm with e | e
    · exact hn e
    · unfold Has at hc; omega
  obtain ⟨a1, a2, a3, a4⟩ := h.has4
  exact ⟨h.whole.gr hg, h.box.gr hg, h.it.kept (hg.by none) (by simp) (by simp), h.has, h.at', ⟨hn _ a1 h.off.1, hn _ a2 h.off.2.1, hn _ a3 h.off.2.2.1, hn _ a4 h.off.2.2.2⟩, h.low⟩
theorem ent_mem {x : Int} (h : (look (entV l cs) x).isSome = true) : ∃ s ∈ cs, num l s = x := by
  obtain ⟨d, hd⟩ := Option.isSome_iff_exists.1 h
  obtain ⟨q, hq, e⟩ := List.mem_map.1 (look_some hd)
  obtain ⟨s, hs, e2⟩ := List.mem_map.1 hq
  subst e2
  injection e with e1 _
  exact ⟨s, hs, e1⟩
end
def Cl1 (l : List Clk) (cal : List Int → Bool) (cs : List (List Int)) (s : List Int) : Prop := ∀ q ∈ nbS l cal s, q.2.2 ∈ cs
noncomputable def wholeB (l : List Clk) (cal : List Int → Bool) (cs : List (List Int)) (x : Bool) (left : Lit → Bool) : Bool := x && decide (∀ s ∈ cs, left (.int .i64 (num l s)) = false → Cl1 l cal cs s)
section
variable {l : List Clk} {cal : List Int → Bool} {cs : List (List Int)} {x : Bool} {left : Lit → Bool}
theorem whole_start (h : ∀ s ∈ cs, left (.int .i64 (num l s)) = true) : wholeB l cal cs x left = x := by
  unfold wholeB
  rw [decide_eq_true (fun s hs e => by rw [h s hs] at e; cases e), Bool.and_true]
theorem whole_step (ho : ListOk l cs) {s : List Int} (hs : s ∈ cs) : (nbS l cal s).foldl (cStep cs) (wholeB l cal cs x left) = wholeB l cal cs x (fun z => left z && !z.sameKey (.int .i64 (num l s))) := by
  have e : (nbS l cal s).foldl (cStep cs) (wholeB l cal cs x left) = (wholeB l cal cs x left && (nbS l cal s).all fun t => decide (t.2.2 ∈ cs)) := foldl_and (fun t : Nbr => decide (t.2.2 ∈ cs)) _ _
  rw [e]
  unfold wholeB
  have h1 : ((nbS l cal s).all fun t => decide (t.2.2 ∈ cs)) = decide (Cl1 l cal cs s) := by
    rw [Bool.eq_iff_iff]
    simp [List.all_eq_true, Cl1]
  rw [h1, Bool.and_assoc]
  congr 1
  rw [Bool.eq_iff_iff]
  simp only [Bool.and_eq_true, decide_eq_true_eq, Bool.and_eq_false_iff, Bool.not_eq_false']
  constructor
  · rintro ⟨a, b⟩ u hu hl
    rcases hl with hl | hl
    · exact a u hu hl
    · have : num l u = num l s := by simpa [Lit.sameKey] using hl
      rw [num_inj (ho u hu) (ho s hs) this]; exact b
  · intro a
    exact ⟨fun u hu hl => a u hu (.inl hl), a s hs (.inr (by simp [Lit.sameKey]))⟩
theorem whole_end {f t : List Int} (h : ∀ kl, left kl = false) (hr : risTo l cal cs cs.length) : wholeB l cal cs (decide (f ∈ cs) && !decide (t ∈ cs)) left = decide (ChkC l cal f t cs) := by
  unfold wholeB
  rw [Bool.eq_iff_iff]
  simp only [Bool.and_eq_true, decide_eq_true_eq, Bool.not_eq_true', decide_eq_false_iff_not]
  constructor
  · rintro ⟨⟨a, b⟩, c⟩
    exact ⟨hr, a, b, fun s hs => c s hs (h _)⟩
  · rintro ⟨_, a, b, c⟩
    exact ⟨⟨a, b⟩, fun s hs _ => c s hs⟩
end
theorem pCheck3_any (l : List Clk) (ms : List Lmt) (f t : List Int) (cs : List (List Int)) (al am af at' ac : Option Addr) (cl cm cf ct cc : Nat) (w : World) (henv : Env w l ms al am) (hf : SetOk l f) (ht : SetOk l t) (sf : SlOf 1 RI w af f) (st : SlOf 1 RI w at' t) (sc : SlOf 1 RSet w ac cs) (ho : ListOk l cs) (hcs : cs.length ≤ 1000000) (cf' : calS l ms f = true) (ct' : calS l ms t = true) :
    Calls Tryz.prog 32 #[.slice al l.length cl, .slice af f.length cf, .slice at' t.length ct, .slice am ms.length cm, .slice ac cs.length cc] w (Grows w (.bool (decide (ChkC l (calS l ms) f t cs)))) := by
  have hnb := small_len (cchk_zero henv.chk).1
  have hfl : f.length = l.length := hf.1
  have htl : t.length = l.length := ht.1
  have BG := begin_any l ms f t al am af at' cl cm cf ct w henv hf ht sf st
  rw [hfl, htl, cf', ct'] at BG
  have HE := Lib.hid henv
  have SF := Lib.hid sf
  have ST := Lib.hid st
  have SC := Lib.hid sc
  have TF := Lib.hid hf
  have TT := Lib.hid ht
  have HO := Lib.hid ho
  have BG' := Lib.hid BG
  have hmm := @run_makeMap Tryz.prog
  obtain ⟨P, hP⟩ : ∃ P : Prop, P = ChkC l (calS l ms) f t cs := ⟨_, rfl⟩
  rw [← hP]
  have HP := Lib.hid hP
  clear BG henv hf ht sf st sc ho cf' ct' hP
  go_enter Tryz.func32, Tryz.ntmps32
  go_wp2_with fail
  refine BG'.out.mono ?_
  rintro e w1 ⟨hg, h0, _⟩
  obtain ⟨BK, rfl, hbk, hmk⟩ := h0 rfl
  have G1 := Lib.hid hg
  have BKL := Lib.hid hbk
  have MK := Lib.hid hmk
  clear h0 hg hbk hmk BG'
  go_wp2_with fail
  obtain ⟨XP, hXP⟩ : ∃ XP : Nat, Hid (w1.heap.size = XP) := ⟨_, Lib.hid rfl⟩
  obtain ⟨BM, hBM⟩ : ∃ BM : Nat, Hid (w1.heap.size + 1 = BM) := ⟨_, Lib.hid rfl⟩
  obtain ⟨BI, hBI⟩ : ∃ BI : Nat, Hid (w1.heap.size + 1 + 1 = BI) := ⟨_, Lib.hid rfl⟩
  rw [hBI.out, hBM.out, hXP.out]
  obtain ⟨W2, hW2⟩ : ∃ W2 : World, Hid (W2 = ((w1.alloc (.cells #[.slice al l.length cl, .slice am ms.length cm, .map (some BK)] 127)).alloc (.map #[] 0)).alloc (.cells #[.map (some BM)] 125)) := ⟨_, Lib.hid rfl⟩
  rw [← hW2.out]
  have H0 : Hid (HSt l ms al am cl cm BK XP BI BM cs w 0 W2) := Lib.hid (by
    rw [hW2.out]
    refine ⟨⟨?_, ?_, ((G1.out.alloc _).alloc _).alloc _, ((G1.out.alloc _).alloc _).alloc _ |>.size⟩, ?_, ?_, trivial⟩
    · rw [← hXP.out]; exact ((Row.new w1 _ _).alloc _).alloc _
    · exact ⟨[], MK.out.gr ((((Gr.refl _).alloc _).alloc _).alloc _), by simp, by simp⟩
    · exact row_new' _ _ _ _ (by rw [← hBI.out]; simp)
    · have := MapV.made (w1.alloc (.cells #[.slice al l.length cl, .slice am ms.length cm, .map (some BK)] 127)) 4 Lit.bool
      have := this.gr ((Gr.refl _).alloc (.cells #[.map (some BM)] 125))
      have e : (w1.alloc (.cells #[.slice al l.length cl, .slice am ms.length cm, .map (some BK)] 127)).heap.size = BM := by rw [← hBM.out]; simp
      rw [e] at this
      simpa [entV] using this)
  have xp : Hid (w.heap.size ≤ XP) := Lib.hid (by have := hXP.out; have := G1.out.size; omega)
  have bm : Hid (w.heap.size ≤ BM) := Lib.hid (by have := hBM.out; have := G1.out.size; omega)
  have bi : Hid (w.heap.size ≤ BI) := Lib.hid (by have := hBI.out; have := G1.out.size; omega)
  have nmk : Hid (BM ≠ BK) := Lib.hid (by have := hBM.out; have := MK.out.has; unfold Has at this; omega)
  clear hW2 hmm G1 MK hXP hBM hBI
  go_loopw [14, 33] (fun s14 s33 wr => ∃ k : Nat, s33 = .int .i64 (k : Int) ∧ s14 = .int .i64 (lastN l cs k) ∧ k ≤ cs.length ∧ HSt l ms al am cl cm BK XP BI BM cs w k wr) (fun _ s33 _ => cs.length - (intOf s33).toNat)
  case atStart => exact ⟨0, rfl, rfl, Nat.zero_le _, H0.out⟩
  case round =>
    clear H0
    obtain ⟨k, rfl, rfl, hk, hS⟩ := hrel
    have HS := Lib.hid hS
    have lb := lastN_bound HE.out.chk HO.out hk
    by_cases hlt : k < cs.length
    · have k2 : (k : Int) < cs.length := by omega
      obtain ⟨b, o, rfl, a, c, q0, hsl⟩ := (SC.out.gr RSet.mono hS.pb.gr).one k hlt
      have hsk := HO.out _ (List.getElem_mem hlt)
      obtain ⟨s, hs⟩ : ∃ s, cs[k] = s := ⟨_, rfl⟩
      rw [hs] at q0 hsl hsk
      rw [hsk.1] at q0
      have HSK := Lib.hid hs
      have SK := Lib.hid hsk
      have SL := Lib.hid hsl
      have S1 : Hid (Calls Tryz.prog 86 #[.slice al l.length cl, .slice a l.length c] wr (Grows wr (.bool true))) := Lib.hid (by
        have := pSetting_any l s al a cl c wr (clks_gr HE.out.clks hS.pb.gr) hsl (by unfold Fit; omega) (by rw [hsk.1]; unfold Fit; omega)
        rwa [decide_eq_true ⟨HE.out.chk, hsk⟩, hsk.1] at this)
      have NM := number_any l s al a am cl c ms.length cm (.map (some BK))
      have N1 : Hid (∀ W, Gr wr W → Calls Tryz.prog 81 #[.agg #[.slice al l.length cl, .slice am ms.length cm, .map (some BK)], .slice a l.length c] W (Grows W (.int .i64 (num l s)))) := Lib.hid (fun W hW => by
        have := NM W (clks_gr HE.out.clks (hS.pb.gr.trans hW)) (hsl.giI hW) HE.out.chk hsk
        rwa [hsk.1] at this)
      have NB := num_small HE.out.chk hsk
      obtain ⟨m, hm⟩ : ∃ m, num l s = m := ⟨_, rfl⟩
      obtain ⟨last, hlast⟩ : ∃ last, lastN l cs k = last := ⟨_, rfl⟩
      rw [hm] at N1 NB
      rw [hlast] at lb ⊢
      have HM := Lib.hid hm
      have HL := Lib.hid hlast
      have qh := has_of_cell q0
      clear hS hs hsk hsl NM hm hlast
      go_wp2_with fail
      refine S1.out.mono ?_
      rintro e w3 ⟨rfl, hg3⟩
      have G3 := Lib.hid hg3
      have y0 := (HS.out.pb.box.gr hg3).cell 0 (by simp)
      have y1 := (HS.out.pb.box.gr hg3).cell 1 (by simp)
      have y2 := (HS.out.pb.box.gr hg3).cell 2 (by simp)
      have yh := (HS.out.pb.box.gr hg3).has
      simp only [List.getElem_cons_zero, List.getElem_cons_succ] at y0 y1 y2
      clear hg3 S1 q0 qh
      go_wp2_with fail
      refine (N1.out w3 G3.out).mono ?_
      rintro e w4 ⟨rfl, hg4⟩
      have S4 := Lib.hid (HS.out.grow (G3.out.trans hg4))
      clear hg4 N1 G3 y0 y1 y2 yh HS
      have y0 := S4.out.pb.box.cell 0 (by simp)
      have y1 := S4.out.pb.box.cell 1 (by simp)
      have y2 := S4.out.pb.box.cell 2 (by simp)
      have yh := S4.out.pb.box.has
      simp only [List.getElem_cons_zero, List.getElem_cons_succ] at y0 y1 y2
      by_cases hml : last < m
      · have hb : decide (m ≤ last) = false := decide_eq_false (by omega)
        have SCm := scalm_any l ms s al am cl cm BK w4 (HE.out.gr S4.out.pb.gr) SK.out S4.out.pb.kn
        rw [HM.out] at SCm
        have SC' := Lib.hid SCm
        have ML := Lib.hid hml
        clear SCm hml
        cases hc : calS l ms s with
        | false =>
          rw [hc] at SC'
          have HC := Lib.hid hc
          clear hc
          go_wp2_with fail
          refine SC'.out.mono ?_
          rintro e w5 ⟨rfl, hk5, hg5⟩
          have S5 := Lib.hid (S4.out.known BKL.out nmk.out hg5 hk5)
          clear hk5 hg5
          go_wp2_with fail
          go_ret
          refine ⟨?_, S5.out.pb.gr⟩
          have hn : ¬ P := by
            rw [HP.out]
            rintro ⟨hr, _⟩
            have := (hr.le (k := k + 1) (by omega)).2.1
            rw [getD_at hlt, HSK.out, HC.out] at this
            cases this
          rw [decide_eq_false hn]; rfl
        | true =>
          rw [hc] at SC'
          have HC := Lib.hid hc
          clear hc
          go_wp2_with fail
          refine SC'.out.mono ?_
          rintro e w5 ⟨rfl, hk5, hg5⟩
          have S5 := Lib.hid (S4.out.known BKL.out nmk.out hg5 hk5)
          clear hk5 hg5 y0 y1 y2 yh S4
          go_wp2_with fail
          have hlk : look (entV l (cs.take k)) m = none := by
            rw [← HM.out, ← HSK.out]
            exact look_ent_new hlt S5.out.ris (by rw [HL.out, HSK.out, HM.out]; exact ML.out)
          have SR := run_store_bool (w := w5.drew) (S5.out.map.gr (Gr.refl _).drew) (k := m) (by rw [← HM.out]; exact wide_num HE.out.chk SK.out) hlk (by rw [entV_len, List.length_take]; unfold maxLen; omega) true
          refine wp_code_eq (c := Code.region 14 (regIn 14 Tryz.f32) true) (by kernel_rfl) (ch14 (R := fun w' => MapB w' BM (entV l (cs.take k) ++ [(m, true)]) ∧ w5.drew.grownBy w' (some BM)) (wr := w5) (n := m) (BI := BI) (BM := BM) S5.out.bi SR ?_)
          intro t53 t54 t55 wx hx
          simp only [ch14A]
          have S6 : Hid (HSt l ms al am cl cm BK XP BI BM cs w (k + 1) wx) := Lib.hid ((S5.out.grow (Gr.refl _).drew).put bm.out nmk.out hlt (by rw [HSK.out]; exact HC.out) (by rw [HL.out, HSK.out, HM.out]; exact ML.out) hx.2 (by rw [HSK.out, HM.out]; exact hx.1))
          clear hx SR hlk
          go_wp2_with fail
          go_roundw
          case rel => exact ⟨k + 1, by go_num, by rw [← HM.out, ← HSK.out]; simp only [lastN]; rw [getD_at hlt], by omega, S6.out⟩
          case measure => simp [intOf]; omega
      · have hb : decide (m ≤ last) = true := decide_eq_true (by omega)
        have ML := Lib.hid hml
        clear hml
        go_wp2_with fail
        go_ret
        refine ⟨?_, S4.out.pb.gr⟩
        have hn : ¬ P := by
          rw [HP.out]
          rintro ⟨hr, _⟩
          have := (hr.le (k := k + 1) (by omega)).2.2
          rw [getD_at hlt, HSK.out, HM.out, HL.out] at this
          have := ML.out
          omega
        rw [decide_eq_false hn]; rfl
    · obtain rfl : k = cs.length := by omega
      have MPk := hS.map
      rw [List.take_length] at MPk
      have RIS := Lib.hid hS.ris
      have MP := Lib.hid MPk
      obtain ⟨x, hx⟩ : ∃ x, decide (f ∈ cs) = x := ⟨_, rfl⟩
      obtain ⟨y, hy⟩ : ∃ y, decide (t ∈ cs) = y := ⟨_, rfl⟩
      have HX := Lib.hid hx
      have HY := Lib.hid hy
      have NXI : Hid (BI ≠ XP) := Lib.hid (hS.bi.s.apart hS.pb.box.s (by decide))
      have NMX : Hid (BM ≠ XP) := Lib.hid (hS.map.ne_row hS.pb.box)
      have NKI : Hid (BK ≠ BI) := Lib.hid (by obtain ⟨V9, hm9, _⟩ := hS.pb.kn; exact hm9.ne_row hS.bi)
      have PBs := Lib.hid (show PB l ms al am cl cm BK XP w wr wr from ⟨hS.pb.box, hS.pb.kn, hS.pb.gr, Nat.le_refl _⟩)
      have BIs := Lib.hid hS.bi
      have HSZ := Lib.hid hS.pb.size
      clear hS MPk hx hy
      have SFl := SF.out
      have STl := ST.out
      go_wp2_with fail
      refine wp_code_eq (c := Code.region 16 (regIn 16 Tryz.f32) true) (by kernel_rfl) (ch16 (w0 := w) (wr := wr) (l := l) (ms := ms) (f := f) (t := t) (al := al) (am := am) (af := af) (at' := at') (cl := cl) (cm := cm) (cf := cf) (ct := ct) (BK := BK) (XP := XP) (BI := BI) (BM := BM) (x := x) (y := y) PBs.out BIs.out MP.out HE.out HO.out TF.out TT.out SFl STl HX.out HY.out ?_)
      intro t57 t58 t59 t60 t61 t62 t63 t64 t65 t66 t67 t68 t69 BW w8 hg8 hbw hrow
      simp only [ch16tA]
      have P8 := Lib.hid (PBs.out.grow hg8)
      have W8 := Lib.hid hrow
      have B8 := Lib.hid (BIs.out.gr hg8)
      obtain ⟨D, hown, hhas, hat0⟩ := MP.out.gr hg8
      rw [entV_len] at hown
      have HH := Lib.hid hhas
      have HA := Lib.hid hat0
      have LBW := Lib.hid hbw
      have i0 := B8.out.cell 0 (by simp)
      have ih := B8.out.has
      simp only [List.getElem_cons_zero] at i0
      have hk8 : Has wr XP ∧ Has wr BK ∧ Has wr BI ∧ Has wr BM := ⟨PBs.out.box.has, PBs.out.kn.has, BIs.out.has, MP.out.has⟩
      have HK8 := Lib.hid hk8
      have Z8 := Lib.hid hg8.size
      obtain ⟨BR, hBR⟩ : ∃ BR : Nat, Hid (w8.heap.size = BR) := ⟨_, Lib.hid rfl⟩
      clear hg8 hrow hhas hat0 hbw SFl STl PBs BIs MP hk8
      go_wp2_with (first
        | (at_range; refine wpList_range_own _ rfl _ 125 rfl 3 4 keyed_int Tryz.underlying125 _ BM _ _ rfl hown ?_; intro w9 hrg0 hg0 hs0; rw [hBR.out] at hrg0 ⊢)
        | fail)
      go_frame
      have C9 : Hid (CSt l w.heap.size BW BI BM BR cs D (Maps.has D) (Maps.size D) (wholeB l (calS l ms) cs (x && !y) (Maps.has D)) w9 [XP, BK]) := Lib.hid (by
        have g9 : Gr w8 w9 := (Gr.refl _).grown hg0 (fun k e => by cases e)
        rw [whole_start (fun s hs => by rw [HH.out, look_ent HO.out (HO.out s hs), if_pos hs]; rfl)]
        have h1 := HK8.out
        have h2 := LBW.out
        have h3 := hBR.out
        have h4 := Z8.out
        have h5 := HSZ.out
        have h6 := W8.out.has
        have h7 := NXI.out
        have h8 := NMX.out
        have h9 := NKI.out
        have h10 := nmk.out
        unfold Has at h1 h6
        obtain ⟨a1, a2, a3, a4⟩ := h1
        refine ⟨W8.out.gr g9, B8.out.gr g9, hrg0, HH.out, HA.out, ⟨?_, ?_, ?_, ?_⟩, ⟨by omega, bi.out, bm.out, by omega⟩⟩
        · simp only [List.mem_cons, List.not_mem_nil, or_false]; omega
        · simp only [List.mem_cons, List.not_mem_nil, or_false]; omega
        · simp only [List.mem_cons, List.not_mem_nil, or_false]; omega
        · simp only [List.mem_cons, List.not_mem_nil, or_false]; omega)
      have P9 := Lib.hid (P8.out.grow ((Gr.refl _).grown hg0 (fun k e => by cases e)))
      clear hrg0 hg0 hs0 hown i0 ih P8 W8 B8
      obtain ⟨wv, hwv⟩ : ∃ wv : World, wv = wr := ⟨_, rfl⟩
      rw [← hwv] at *
      clear hwv
      go_loopw [19] (fun _ wx => ∃ (left : Lit → Bool) (cnt : Nat), CSt l w.heap.size BW BI BM BR cs D left cnt (wholeB l (calS l ms) cs (x && !y) left) wx [XP, BK] ∧ PB l ms al am cl cm BK XP w w wx) (fun _ wx => wx.rangeLeft BM BR)
      case atStart => exact ⟨_, _, C9.out, P9.out.box, P9.out.kn, P9.out.gr, P9.out.gr.size⟩
      case round =>
        clear C9 P9
        obtain ⟨left, cnt, hC, hPB⟩ := hrel
        have CC := Lib.hid hC
        have PP := Lib.hid hPB
        have w0c := hC.whole.cell 0 (by simp)
        have w0h := hC.whole.has
        have i0 := hC.box.cell 0 (by simp)
        have ih := hC.box.has
        have hit := hC.it
        simp only [List.getElem_cons_zero] at w0c i0
        obtain ⟨wb, hwb⟩ : ∃ wb, wholeB l (calS l ms) cs (x && !y) left = wb := ⟨_, rfl⟩
        rw [hwb] at w0c
        have WB := Lib.hid hwb
        clear hC hPB hwb
        go_wp2_with (first
          | (at_next; refine wpList_next_ranges _ rfl _ rfl 3 keyed_int (plainElem Tryz.prog 4) (Value.int .i64) (fun v : Value => v) (fun key kl hkey => by obtain ⟨x, rfl, _⟩ := Maps.keyOf_int_inv Tryz.underlying3 hkey; exact ⟨x, rfl⟩) (fun v y hv => ⟨v, rfl⟩) BM BR cs.length _ _ _ rfl hit ?_ ?_)
          | fail)
        · intro _ hl0
          go_wp2_with fail
          go_ret
          refine ⟨?_, PP.out.gr⟩
          rw [← WB.out, ← HX.out, ← HY.out, whole_end hl0 RIS.out, HP.out]; rfl
        · intro xk cb kl yd yp w5 cnt5 hkey hlk hv hat hrg5 hlt5 hg5 hs5 hen
          obtain ⟨x', ex, rfl, _⟩ := Maps.keyOf_int_inv Tryz.underlying3 hkey
          cases ex
          have HXk : (look (entV l cs) xk).isSome = true := by rw [← HH.out xk]; exact Maps.has_true_of_atKey hat
          obtain ⟨s, hsm, rfl⟩ := ent_mem HXk
          have C5 := CC.out.next hrg5 hg5
          have NR : BR ≠ BW := (ranges_row CC.out.it CC.out.whole).2
          have P5 : PB l ms al am cl cm BK XP w w w5 := by
            have h1 := CC.out.off.2.2.2
            simp only [List.mem_cons, List.not_mem_nil, or_false, not_or] at h1
            exact ⟨PP.out.box.grown hg5 (by intro e; injection e with e; exact h1.1 e.symm), PP.out.kn.kept hg5 (by intro e; injection e with e; exact h1.2 e.symm), PP.out.gr.grown hg5 (fun k e => by injection e with e; subst e; exact CC.out.low.2.2.2), Nat.le_trans PP.out.size hg5.size⟩
          have hsk := HO.out s hsm
          have EC := eachC_any (CSt l w.heap.size BW BI BM BR cs D (fun z => left z && !z.sameKey (.int .i64 (num l s))) cnt5) (cStep cs) l ms s al am cl cm BK BW BI [XP, BK] w w5 (wholeB l (calS l ms) cs (x && !y) left) HE.out P5.gr hsk P5.kn BKL.out
            (fun b hb => by
              simp only [List.mem_cons, List.not_mem_nil, or_false] at hb
              rcases hb with e | e
              · subst e; exact P5.box.has
              · subst e; exact P5.kn.has) (by simp) (cst_ok l w.heap.size BW BI BM BR cs D _ cnt5) C5.start (check1_any l (calS l ms) BW BI BM BR cs D _ cnt5 s w HE.out.chk hsk HO.out NR)
          rw [whole_step HO.out hsm] at EC
          have NXK : Hid (XP ≠ BK) := Lib.hid (by obtain ⟨V9, hm9, _⟩ := P5.kn; exact Ne.symm (hm9.ne_row P5.box))
          have P5' := Lib.hid P5
          have EC' := Lib.hid EC
          have LE := Lib.hid hit.left_eq
          have LT := Lib.hid hlt5
          have y0 := P5.box.cell 0 (by simp)
          have y1 := P5.box.cell 1 (by simp)
          have y2 := P5.box.cell 2 (by simp)
          have yh := P5.box.has
          simp only [List.getElem_cons_zero, List.getElem_cons_succ] at y0 y1 y2
          obtain ⟨m, hm⟩ : ∃ m, num l s = m := ⟨_, rfl⟩
          rw [hm] at hen EC' ⊢
          have HM := Lib.hid hm
          clear EC P5 C5 NR hkey hlk hv hat hrg5 hlt5 hg5 hs5 HXk hit w0c w0h i0 ih CC PP WB hm hsk
          go_wp2_with fail
          refine EC'.out.mono ?_
          rintro e w6 ⟨rfl, i1, i2, i3, i4, i5⟩
          have I1 := Lib.hid i1
          have P6 : Hid (PB l ms al am cl cm BK XP w w w6) := Lib.hid ⟨by have := P5'.out.box; unfold Row at this ⊢; rw [i4 XP (by simp) NXK.out]; exact this, i3, i2, i2.size⟩
          clear i1 i2 i3 i4 i5 EC'
          go_wp2_with fail
          go_roundw
          case rel => exact ⟨_, cnt5, I1.out, P6.out⟩
          case measure => rw [I1.out.it.left_eq, LE.out]; exact LT.out
theorem made_false (n : Nat) : (madeCells #[Value.bool false] n).toList = bools (List.replicate n false) := by
  apply List.ext_getElem
  · simp [madeCells, bools]
  · intro i h1 h2
    simp [madeCells, Nat.mod_one, bools]
theorem rCheck3_any (l : List Clk) (ms : List Lmt) (f t : List Int) (cs : List (List Int)) (al am af at' ac : Option Addr) (cl cm cf ct cc : Nat) (w : World) (henv : Env w l ms al am) (hf : SetOk l f) (ht : SetOk l t) (sf : SlOf 1 RI w af f) (st : SlOf 1 RI w at' t) (sc : SlOf 1 RSet w ac cs) (ho : ListOk l cs) (hcs : cs.length ≤ 1000000) (cf' : calS l ms f = true) (ct' : calS l ms t = true) :
    Calls Tryz.prog 33 #[.slice al l.length cl, .slice af f.length cf, .slice at' t.length ct, .slice am ms.length cm, .slice ac cs.length cc] w (Grows w (.bool (decide (ChkC l (calS l ms) f t cs)))) := by
  have hnb := small_len (cchk_zero henv.chk).1
  have hfl : f.length = l.length := hf.1
  have htl : t.length = l.length := ht.1
  have BG := refBegin3_any l ms f t al am af at' cl cm cf ct w henv hf ht sf st cf' ct'
  rw [hfl, htl] at BG
  have HE := Lib.hid henv
  have SF := Lib.hid sf
  have ST := Lib.hid st
  have SC := Lib.hid sc
  have TF := Lib.hid hf
  have TT := Lib.hid ht
  have HO := Lib.hid ho
  have BG' := Lib.hid BG
  have CN := Lib.hid (fun W (hW : Gr w W) => refCount_any l al cl W (clks_gr henv.clks hW) henv.chk)
  have PR := (cchk_zero henv.chk).2.2.1
  have NB := Lib.hid (cchk_zero henv.chk).1
  obtain ⟨N, hN⟩ : ∃ N, prodC l = N := ⟨_, rfl⟩
  have EN := Lib.hid hN
  rw [hN] at PR CN
  obtain ⟨i0, hi, hz0, hz1, hz2⟩ := info_parts infoBool
  have hmk : ∀ W : World, (Instr.makeSlice 88 (.int .i64 (N : Int)) (.int .i64 (N : Int))).run Tryz.prog W = .ok (.slice (some ⟨W.heap.size, 0, none⟩) N N) (W.alloc (.cells (madeCells #[.bool false] N) 4)) := fun W => by
    have hr := run_make (P := Tryz.prog) W 88 4 i0 (.bool false) Tryz.underlying88 hi hz0 .i64 .i64 N N (by omega) (Int.le_refl _) (by rw [hz2]; omega) (by omega)
    simp only [Int.toNat_natCast, hz1, Nat.mul_one] at hr
    exact hr
  obtain ⟨P, hP⟩ : ∃ P : Prop, P = ChkC l (calS l ms) f t cs := ⟨_, rfl⟩
  rw [← hP]
  have HP := Lib.hid hP
  clear BG henv hf ht sf st sc ho cf' ct' hP hN
  go_enter Tryz.func33, Tryz.ntmps33
  go_wp2_with fail
  refine BG'.out.mono ?_
  rintro e w1 ⟨rfl, hg1⟩
  have G1 := Lib.hid hg1
  clear hg1 BG'
  go_wp2_with fail
  refine (CN.out w1 G1.out).mono ?_
  rintro e w2 ⟨rfl, hg2⟩
  have G2 := Lib.hid (G1.out.trans hg2)
  clear hg2 CN G1
  go_wp2_with fail
  obtain ⟨IN, hIN⟩ : ∃ IN : Nat, Hid (w2.heap.size = IN) := ⟨_, Lib.hid rfl⟩
  rw [hIN.out]
  obtain ⟨W3, hW3⟩ : ∃ W3 : World, Hid (W3 = w2.alloc (.cells (madeCells #[.bool false] N) 4)) := ⟨_, Lib.hid rfl⟩
  rw [← hW3.out]
  have R3 : Hid (Row W3 IN 4 (bools (inV l cs N 0))) := Lib.hid (by
    have := Row.new w2 (madeCells #[.bool false] N) 4
    rw [made_false, ← hW3.out, hIN.out] at this
    rwa [inV_zero])
  have G3 : Hid (Gr w W3) := Lib.hid (by rw [hW3.out]; exact G2.out.alloc _)
  have LIN : Hid (w.heap.size ≤ IN) := Lib.hid (by have := hIN.out; have := G2.out.size; omega)
  clear hW3 hIN G2 hmk
  go_loopw [12, 32] (fun s12 s32 wr => ∃ k : Nat, s32 = .int .i64 (k : Int) ∧ s12 = .int .i64 (lastN l cs k) ∧ k ≤ cs.length ∧ risTo l (calS l ms) cs k ∧ Row wr IN 4 (bools (inV l cs N k)) ∧ Gr w wr) (fun _ s32 _ => cs.length - (intOf s32).toNat)
  case atStart => exact ⟨0, rfl, rfl, Nat.zero_le _, trivial, R3.out, G3.out⟩
  case round =>
    clear R3 G3
    obtain ⟨k, rfl, rfl, hk, hris, hrow, hg⟩ := hrel
    have RS := Lib.hid hris
    have RW := Lib.hid hrow
    have HG := Lib.hid hg
    have lb := lastN_bound HE.out.chk HO.out hk
    by_cases hlt : k < cs.length
    · have k2 : (k : Int) < cs.length := by omega
      obtain ⟨b, o, rfl, a, c, q0, hsl⟩ := (SC.out.gr RSet.mono hg).one k hlt
      have hsk := HO.out _ (List.getElem_mem hlt)
      obtain ⟨s, hs⟩ : ∃ s, cs[k] = s := ⟨_, rfl⟩
      rw [hs] at q0 hsl hsk
      rw [hsk.1] at q0
      have HSK := Lib.hid hs
      have SK := Lib.hid hsk
      have CA : Hid (Calls Tryz.prog 41 #[.slice al l.length cl, .slice a l.length c, .slice am ms.length cm] wr (Grows wr (.bool (calS l ms s)))) := Lib.hid (by
        have := refCalm_any l ms s al a am cl c cm wr (clks_gr HE.out.clks hg) hsl (lmts_gr HE.out.lmts hg) HE.out.chk hsk HE.out.lims
        rwa [hsk.1] at this)
      have N1 : Hid (∀ W, Gr wr W → Calls Tryz.prog 91 #[.slice al l.length cl, .slice a l.length c] W (Grows W (.int .i64 (num l s)))) := Lib.hid (fun W hW => by
        have := refNumber_any l s al a cl c W (clks_gr HE.out.clks (hg.trans hW)) (hsl.giI hW) HE.out.chk hsk
        rwa [hsk.1] at this)
      have NBs := num_bound hsk
      rw [EN.out] at NBs
      obtain ⟨m, hm⟩ : ∃ m : Nat, num l s = (m : Int) := ⟨(num l s).toNat, by omega⟩
      obtain ⟨last, hlast⟩ : ∃ last, lastN l cs k = last := ⟨_, rfl⟩
      rw [hm] at N1 NBs
      rw [hlast] at lb ⊢
      have HM := Lib.hid hm
      have HL := Lib.hid hlast
      have qh := has_of_cell q0
      clear hris hrow hs hsk hsl hm hlast
      cases hc : calS l ms s with
      | false =>
        rw [hc] at CA
        have HC := Lib.hid hc
        clear hc hg
        go_wp2_with fail
        refine CA.out.mono ?_
        rintro e w3 ⟨rfl, hg3⟩
        have G3 := Lib.hid (HG.out.trans hg3)
        clear hg3
        go_wp2_with fail
        go_ret
        refine ⟨?_, G3.out⟩
        have hn : ¬ P := by
          rw [HP.out]
          rintro ⟨hr, _⟩
          have := (hr.le (k := k + 1) (by omega)).2.1
          rw [getD_at hlt, HSK.out, HC.out] at this
          cases this
        rw [decide_eq_false hn]; rfl
      | true =>
        rw [hc] at CA
        have HC := Lib.hid hc
        clear hc hg
        go_wp2_with fail
        refine CA.out.mono ?_
        rintro e w3 ⟨rfl, hg3⟩
        have G3 := Lib.hid hg3
        clear hg3 CA
        go_wp2_with fail
        refine (N1.out w3 G3.out).mono ?_
        rintro e w4 ⟨rfl, hg4⟩
        have G4 := Lib.hid (G3.out.trans hg4)
        clear hg4 G3
        by_cases hml : last < (m : Int)
        · have hb : decide ((m : Int) ≤ last) = false := decide_eq_false (by omega)
          have ML := Lib.hid hml
          clear hml
          go_wp2_with fail
          refine (N1.out w4 G4.out).mono ?_
          rintro e w5 ⟨rfl, hg5⟩
          have G5 := Lib.hid (G4.out.trans hg5)
          have r5 := RW.out.gr G5.out
          have c5 := r5.cell m (by rw [bools_len, inV_len]; omega)
          have f5 := r5.free m
          have h5 := r5.has
          have R5 := Lib.hid r5
          have m2 : (m : Int) < (N : Int) := NBs.2
          clear hg5 G4 r5
          go_wp2_with fail
          go_roundw
          case rel =>
            refine ⟨k + 1, by go_num, by rw [← HM.out, ← HSK.out]; simp only [lastN]; rw [getD_at hlt], by omega, ⟨RS.out, by rw [getD_at hlt, HSK.out]; exact HC.out, by rw [getD_at hlt, HSK.out, HM.out, HL.out]; exact ML.out⟩, ?_, (HG.out.trans G5.out).setc LIN.out⟩
            have := R5.out.bset m true
            rwa [inV_step hlt (by rw [HSK.out]; exact HM.out)] at this
          case measure => simp [intOf]; omega
        · have hb : decide ((m : Int) ≤ last) = true := decide_eq_true (by omega)
          have ML := Lib.hid hml
          clear hml
          go_wp2_with fail
          go_ret
          refine ⟨?_, HG.out.trans G4.out⟩
          have hn : ¬ P := by
            rw [HP.out]
            rintro ⟨hr, _⟩
            have := (hr.le (k := k + 1) (by omega)).2.2
            rw [getD_at hlt, HSK.out, HM.out, HL.out] at this
            have := ML.out
            omega
          rw [decide_eq_false hn]; rfl
    · obtain rfl : k = cs.length := by omega
      have NF : Hid (∀ W, Gr wr W → Calls Tryz.prog 91 #[.slice al l.length cl, .slice af l.length cf] W (Grows W (.int .i64 (num l f)))) := Lib.hid (fun W hW => by
        have := refNumber_any l f al af cl cf W (clks_gr HE.out.clks (hg.trans hW)) (SF.out.giI (hg.trans hW)) HE.out.chk TF.out
        rwa [hfl] at this)
      have NT : Hid (∀ W, Gr wr W → Calls Tryz.prog 91 #[.slice al l.length cl, .slice at' l.length ct] W (Grows W (.int .i64 (num l t)))) := Lib.hid (fun W hW => by
        have := refNumber_any l t al at' cl ct W (clks_gr HE.out.clks (hg.trans hW)) (ST.out.giI (hg.trans hW)) HE.out.chk TT.out
        rwa [htl] at this)
      have CELL : Hid (∀ (x : List Int) (m : Nat) (W : World), SetOk l x → num l x = (m : Int) → Gr wr W → W.cell? ⟨IN, m, none⟩ = some (.bool (decide (x ∈ cs)))) := Lib.hid (fun x m W hx hm hW => by
        have hb := num_bound hx
        rw [EN.out, hm] at hb
        have := (hrow.gr hW).bat m (by rw [inV_len]; omega)
        rwa [inV_all HO.out hx hm] at this)
      have BNf := num_bound TF.out
      have BNt := num_bound TT.out
      rw [EN.out] at BNf BNt
      obtain ⟨mf, hmf⟩ : ∃ m : Nat, num l f = (m : Int) := ⟨(num l f).toNat, by omega⟩
      obtain ⟨mt, hmt⟩ : ∃ m : Nat, num l t = (m : Int) := ⟨(num l t).toNat, by omega⟩
      rw [hmf] at NF BNf
      rw [hmt] at NT BNt
      have MF := Lib.hid hmf
      have MT := Lib.hid hmt
      obtain ⟨x, hx⟩ : ∃ x, decide (f ∈ cs) = x := ⟨_, rfl⟩
      obtain ⟨y, hy⟩ : ∃ y, decide (t ∈ cs) = y := ⟨_, rfl⟩
      have HX := Lib.hid hx
      have HY := Lib.hid hy
      have bf2 : (mf : Int) < (N : Int) := BNf.2
      have bt2 : (mt : Int) < (N : Int) := BNt.2
      clear hris hrow hmf hmt BNf BNt hx hy hg
      go_wp2_with fail
      refine (NF.out wr (Gr.refl _)).mono ?_
      rintro e w3 ⟨rfl, hg3⟩
      have c3 := CELL.out f mf w3 TF.out MF.out hg3
      rw [HX.out] at c3
      have h3 := has_of_cell c3
      have G3 := Lib.hid hg3
      clear hg3 NF
      cases x with
      | false =>
        go_wp2_with fail
        go_ret
        refine ⟨?_, HG.out.trans G3.out⟩
        have hn : ¬ P := by
          rw [HP.out]
          rintro ⟨_, hr, _⟩
          have := HX.out
          simp [hr] at this
        rw [decide_eq_false hn]; rfl
      | true =>
        go_wp2_with fail
        refine (NT.out w3 G3.out).mono ?_
        rintro e w4 ⟨rfl, hg4⟩
        have c4 := CELL.out t mt w4 TT.out MT.out (G3.out.trans hg4)
        rw [HY.out] at c4
        have h4 := has_of_cell c4
        have G4 := Lib.hid (G3.out.trans hg4)
        clear hg4 NT c3 h3
        cases y with
        | true =>
          go_wp2_with fail
          go_ret
          refine ⟨?_, HG.out.trans G4.out⟩
          have hn : ¬ P := by
            rw [HP.out]
            rintro ⟨_, _, hr, _⟩
            have := HY.out
            simp [hr] at this
          rw [decide_eq_false hn]; rfl
        | false =>
          go_wp2_with fail
          obtain ⟨wi, rfl⟩ : ∃ wi : World, wi = wr := ⟨_, rfl⟩
          clear c4 h4
          go_loopw [72] (fun s72 wr => ∃ i : Nat, i ≤ cs.length ∧ s72 = .int .i64 (i : Int) ∧ Gr wi wr ∧ Hid (∀ j (hj : j < cs.length), j < i → ∀ u v : Nat, u < l.length → (v : Int) < kOf l u → ¬ badS (calS l ms) cs cs[j] u v)) (fun s72 _ => cs.length - (intOf s72).toNat)
          case atStart => exact ⟨0, Nat.zero_le _, rfl, G4.out, Lib.hid (fun j _ h => by omega)⟩
          case round =>
            obtain ⟨i, hi', rfl, hg5, hdone⟩ := hrel
            have G5 := Lib.hid hg5
            by_cases hlt : i < cs.length
            · have i2 : (i : Int) < cs.length := by omega
              obtain ⟨b, o, rfl, a, c, q0, hsl⟩ := (SC.out.gr RSet.mono (HG.out.trans hg5)).one i hlt
              have hsk := HO.out _ (List.getElem_mem hlt)
              have hsm := List.getElem_mem hlt
              obtain ⟨s, hs⟩ : ∃ s, cs[i] = s := ⟨_, rfl⟩
              rw [hs] at q0 hsl hsk hsm
              rw [hsk.1] at q0
              have HSK := Lib.hid hs
              have SK := Lib.hid hsk
              have SM := Lib.hid hsm
              have SL := Lib.hid hsl
              have qh := has_of_cell q0
              clear hs hsk hsm hsl hg5
              go_wp2_with fail
              obtain ⟨wj, rfl⟩ : ∃ wj : World, wj = wr := ⟨_, rfl⟩
              clear q0 qh
              go_loopw [78] (fun s78 wr => ∃ u : Nat, u ≤ l.length ∧ s78 = .int .i64 (u : Int) ∧ Gr wj wr ∧ Hid (∀ u' v : Nat, u' < u → u' < l.length → (v : Int) < kOf l u' → ¬ badS (calS l ms) cs s u' v)) (fun s78 _ => l.length - (intOf s78).toNat)
              case atStart => exact ⟨0, Nat.zero_le _, rfl, Gr.refl _, Lib.hid (fun u v h => by omega)⟩
              case round =>
                obtain ⟨u, hu, rfl, hg6, hdu⟩ := hrel
                have G6 := Lib.hid hg6
                by_cases hlu : u < l.length
                · have u2 : (u : Int) < l.length := by omega
                  obtain ⟨bl, ol, rfl, ⟨d0, _⟩, ⟨ap, cp, d1, _⟩, ⟨ach, cch, d2, d2l, d2f, _⟩, ⟨d3, _⟩, ⟨d4, _⟩⟩ := clks_gr HE.out.clks (HG.out.trans (G5.out.trans hg6)) u hlu
                  unfold Fit at d2f
                  have KO : Hid (kOf l u = (l[u].choices.length : Int)) := Lib.hid (kOf_at hlu)
                  have dh := has_of_cell d0
                  clear hg6
                  go_wp2_with fail
                  obtain ⟨wk, hwk⟩ : ∃ wk : World, Hid (wk = wr.alloc (.cells #[.int .i64 l[u].kind, .slice ap l[u].parents.length cp, .slice ach l[u].choices.length cch, .int .i64 l[u].low, .int .i64 l[u].high] 79)) := ⟨_, Lib.hid rfl⟩
                  rw [← hwk.out]
                  have Gk : Hid (Gr wj wk) := Lib.hid (by rw [hwk.out]; exact G6.out.alloc _)
                  clear hwk d0 d1 d2 d3 d4 dh G6
                  go_loopw [86] (fun s86 wr => ∃ v : Nat, v ≤ l[u].choices.length ∧ s86 = .int .i64 (v : Int) ∧ Gr wk wr ∧ Hid (∀ v' : Nat, v' < v → ¬ badS (calS l ms) cs s u v')) (fun s86 _ => l[u].choices.length - (intOf s86).toNat)
                  case atStart => exact ⟨0, Nat.zero_le _, rfl, Gr.refl _, Lib.hid (fun v h => by omega)⟩
                  case round =>
                    obtain ⟨v, hv, rfl, hg7, hdv⟩ := hrel
                    have G7 := Lib.hid (Gk.out.trans hg7)
                    have G7k := Lib.hid hg7
                    by_cases hlv : v < l[u].choices.length
                    · have v2 : (v : Int) < l[u].choices.length := by omega
                      have CH := changed_any s u (v : Int) a c wr (SL.out.giI G7.out) (by rw [SK.out.1]; exact hlu) (by rw [SK.out.1]; exact hnb)
                      rw [SK.out.1] at CH
                      have CH' := Lib.hid CH
                      have hs2 := SK.out.set hlu (show 0 ≤ (v : Int) by omega) (by rw [KO.out]; exact v2)
                      have S2 := Lib.hid hs2
                      have BNx := num_bound hs2
                      rw [EN.out] at BNx
                      obtain ⟨m, hm⟩ : ∃ m : Nat, num l (s.set u (v : Int)) = (m : Int) := ⟨(num l (s.set u (v : Int))).toNat, by omega⟩
                      rw [hm] at BNx
                      have HM := Lib.hid hm
                      have m2 : (m : Int) < (N : Int) := BNx.2
                      clear CH hg7 hs2 hm BNx
                      go_wp2_with fail
                      refine CH'.out.mono ?_
                      rintro e w5 ⟨B5, c5, rfl, hr5, _, hg5⟩
                      have G75 := Lib.hid (G7.out.trans hg5)
                      have H75 := Lib.hid hg5
                      have GW := Lib.hid (HG.out.trans (G5.out.trans G75.out))
                      have N5 : Hid (Calls Tryz.prog 91 #[.slice (some ⟨bl, ol, none⟩) l.length cl, .slice (some ⟨B5, 0, none⟩) l.length c5] w5 (Grows w5 (.int .i64 (m : Int)))) := Lib.hid (by
                        have := refNumber_any l (s.set u (v : Int)) (some ⟨bl, ol, none⟩) (some ⟨B5, 0, none⟩) cl c5 w5 (clks_gr HE.out.clks GW.out) (hr5.slI (setOk_wide HE.out.chk S2.out)) HE.out.chk S2.out
                        rwa [S2.out.1, HM.out] at this)
                      have R5 := Lib.hid hr5
                      clear CH' hr5 hg5
                      go_wp2_with fail
                      refine N5.out.mono ?_
                      rintro e w6 ⟨rfl, hg6⟩
                      have c6 := CELL.out (s.set u (v : Int)) m w6 S2.out HM.out (G5.out.trans (G75.out.trans hg6))
                      have h6 := has_of_cell c6
                      have G6 := Lib.hid (G75.out.trans hg6)
                      have G76 := Lib.hid (H75.out.trans hg6)
                      have K6 : Hid (Calls Tryz.prog 93 #[.slice (some ⟨bl, ol, none⟩) l.length cl, .slice (some ⟨B5, 0, none⟩) l.length c5, .slice am ms.length cm] w6 (Grows w6 (.bool (calS l ms (s.set u (v : Int)))))) := Lib.hid (by
                        have := refCalm1_any l ms (s.set u (v : Int)) (some ⟨bl, ol, none⟩) (some ⟨B5, 0, none⟩) am cl c5 cm w6 (clks_gr HE.out.clks (GW.out.trans hg6)) ((R5.out.gr hg6).slI (setOk_wide HE.out.chk S2.out)) (lmts_gr HE.out.lmts (GW.out.trans hg6)) HE.out.chk S2.out HE.out.lims
                        rwa [S2.out.1] at this)
                      obtain ⟨z, hz⟩ : ∃ z, decide (s.set u (v : Int) ∈ cs) = z := ⟨_, rfl⟩
                      rw [hz] at c6
                      have HZ := Lib.hid hz
                      clear hz N5 hg6 R5
                      cases z with
                      | true =>
                        clear K6
                        go_wp2_with fail
                        go_roundw
                        case rel =>
                          refine ⟨v + 1, by omega, by go_num, (G7k.out.trans G76.out), Lib.hid (fun v' h => ?_)⟩
                          by_cases e : v' = v
                          · subst e; intro hb; exact hb.1 (by have := HZ.out; simpa using this)
                          · exact hdv.out v' (by omega)
                        case measure => simp [intOf]; omega
                      | false =>
                        obtain ⟨y2, hy2⟩ : ∃ y, calS l ms (s.set u (v : Int)) = y := ⟨_, rfl⟩
                        rw [hy2] at K6
                        have HY2 := Lib.hid hy2
                        clear hy2
                        cases y2 with
                        | true =>
                          go_wp2_with fail
                          refine K6.out.mono ?_
                          rintro e w7 ⟨rfl, hg7⟩
                          have G8 := Lib.hid (HG.out.trans (G5.out.trans (G6.out.trans hg7)))
                          clear hg7
                          go_wp2_with fail
                          go_ret
                          refine ⟨?_, G8.out⟩
                          have hn : ¬ P := by
                            rw [HP.out]
                            rintro ⟨_, _, _, hr⟩
                            exact badS_not HO.out SM.out hlu (by rw [KO.out]; exact v2) ⟨by have := HZ.out; simpa using this, HY2.out⟩ hr
                          rw [decide_eq_false hn]; rfl
                        | false =>
                          go_wp2_with fail
                          refine K6.out.mono ?_
                          rintro e w7 ⟨rfl, hg7⟩
                          have G8 := Lib.hid (G7k.out.trans (G76.out.trans hg7))
                          clear hg7
                          go_wp2_with fail
                          go_roundw
                          case rel =>
                            refine ⟨v + 1, by omega, by go_num, G8.out, Lib.hid (fun v' h => ?_)⟩
                            by_cases e : v' = v
                            · subst e; intro hb; have := HY2.out; rw [hb.2] at this; cases this
                            · exact hdv.out v' (by omega)
                          case measure => simp [intOf]; omega
                    · obtain rfl : v = l[u].choices.length := by omega
                      clear hg7
                      go_wp2_with fail
                      go_roundw
                      case rel =>
                        refine ⟨u + 1, by omega, by go_num, G7.out, Lib.hid (fun u' v' h1 h2 h3 => ?_)⟩
                        by_cases e : u' = u
                        · subst e; rw [KO.out] at h3; exact hdv.out v' (by omega)
                        · exact hdu.out u' v' (by omega) h2 h3
                      case measure => simp [intOf]; omega
                · obtain rfl : u = l.length := by omega
                  clear hg6
                  go_wp2_with fail
                  go_roundw
                  case rel =>
                    refine ⟨i + 1, by omega, by go_num, G5.out.trans G6.out, Lib.hid (fun j hj h u' v' h1 h2 => ?_)⟩
                    by_cases e : j = i
                    · subst e; rw [HSK.out]; exact hdu.out u' v' (by omega) h1 h2
                    · exact hdone.out j hj (by omega) u' v' h1 h2
                  case measure => simp [intOf]; omega
            · obtain rfl : i = cs.length := by omega
              clear hg5
              go_wp2_with fail
              go_ret
              refine ⟨?_, HG.out.trans G5.out⟩
              have hy' : P := by
                rw [HP.out]
                exact ⟨RS.out, by have := HX.out; simpa using this, by have := HY.out; simpa using this, closed_of (fun j hj u v h1 h2 => hdone.out j hj hj u v h1 h2)⟩
              rw [decide_eq_true hy']; rfl
end Go.Proofs.YtenehghpmnajpaaGreatDoor
