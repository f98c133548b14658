/- slices.Sort of whole numbers in a row of one's own, off the shelf (the text ..Shelf is written by the kit's lay-shelf and lay-plain); lists of settings in memory. -/
import Derived.Test.YtenehghpmnajpaaGreatDoorKt
import Derived.Test.YtenehghpmnajpaaGreatDoorCsP
import Derived.Test.YtenehghpmnajpaaGreatDoorShelf
import Derived.Maps.RangeWalk
set_option linter.unusedVariables false
set_option linter.unusedSimpArgs false
namespace Go.Proofs.YtenehghpmnajpaaGreatDoor
open Go.RowKit
open Classical
def srt (zs : List Int) : List Int := zs.mergeSort (fun x y => decide (x ≤ y))
theorem srt_len (zs : List Int) : (srt zs).length = zs.length := List.length_mergeSort _
def SortsI (w : World) (base : Nat) (v : Value) (zs : List Int) (e : Ending) (w' : World) : Prop := e = .returned (.tuple #[]) ∧ w'.ownsRow base 3 1 v zs.length (nums (srt zs)) ∧ w.grownBy w' v.ownBlock
theorem put_block {w : World} {g e q : Nat} {cur : Array Value} (hb : w.heap[g]? = some (.cells cur e (0, 0))) (d : Array Int) (os : Array Obj) :
    (Sort.grow (Sort.putRow (Value.int .i64) (Sort.ahead w q) g 0 d) os).heap[g]? = some (.cells (Sort.putCells (Value.int .i64) 0 d cur) e (0, 0)) := by
  have hg := (Array.getElem?_eq_some_iff.1 hb).1
  simp only [Sort.grow, Sort.putRow, Sort.mapBlock, Sort.ahead]
  rw [Array.getElem?_append_left (by simpa using hg), Array.getElem?_modify, if_pos rfl, hb]
  rfl
theorem put_grown {w : World} {g q : Nat} (d : Array Int) (os : Array Obj) : w.grownBy (Sort.grow (Sort.putRow (Value.int .i64) (Sort.ahead w q) g 0 d) os) (some g) := by
  refine ⟨rfl, rfl, rfl, ?_, fun k hk hne => ?_⟩
  · simp [Sort.grow, Sort.putRow, Sort.mapBlock, Sort.ahead]
  · simp only [Sort.grow, Sort.putRow, Sort.mapBlock, Sort.ahead]
    rw [Array.getElem?_append_left (by simpa using hk), Array.getElem?_modify, if_neg (fun e => hne (by rw [e]))]
theorem put_take {cur : Array Value} {d : Array Int} {m : Nat} (hd : d.size ≤ cur.size) (hm : m ≤ d.size) : (Sort.putCells (Value.int .i64) 0 d cur).toList.take m = nums (d.toList.take m) := by
  apply List.ext_getElem
  · simp [Sort.putCells, nums]; omega
  · intro k h1 h2
    have hk : k < m := by simp [Sort.putCells] at h1; omega
    simp only [Sort.putCells, List.getElem_take, Array.getElem_toList, Array.getElem_mapIdx, nums, List.getElem_map]
    rw [if_pos (by omega), Nat.sub_zero, getElem!_pos d k (by omega)]
theorem put_size (d : Array Int) (cur : Array Value) : (Sort.putCells (Value.int .i64) 0 d cur).size = cur.size := by simp [Sort.putCells]
theorem own_holds {w : World} {g : Nat} {cur : Array Value} {zs : List Int} (hb : w.heap[g]? = some (.cells cur 3 (0, 0))) (ht : cur.toList.take (zs.length * 1) = nums zs) : Sort.Holds (Value.int .i64) w g 0 zs.toArray := by
  have hr : RowS w g 3 (nums zs) := ⟨cur.toList.drop (zs.length * 1), by rw [← ht, List.take_append_drop]; exact hb⟩
  intro j hj
  have hj' : j < zs.length := by simpa using hj
  refine ⟨?_, hr.free _⟩
  rw [Nat.zero_add, hr.iat j hj', getElem!_pos zs.toArray j hj]
  simp
theorem sortI_any (zs : List Int) (v : Value) (base : Nat) (w : World) (h : w.ownsRow base 3 1 v zs.length (nums zs)) (h0 : zs ≠ []) (hf : zs.length ≤ 1000000) :
    Calls Tryz.prog 84 #[v] w (SortsI w base v zs) := by
  obtain ⟨_, ⟨rfl, hn⟩ | ⟨g, cap, cur, rfl, hb, hg, hnc, hcm, hcs, htk⟩⟩ := h
  · exact absurd (List.eq_nil_of_length_eq_zero hn) h0
  · refine (Tryz.slices_Sort_int g 0 cap zs w (own_holds hg htk) (Array.getElem?_eq_some_iff.1 hg).1 (by omega)).mono ?_
    rintro e w' ⟨rfl, q, os, rfl⟩
    refine ⟨rfl, ⟨by simp [nums, srt_len], .inr ⟨g, cap, _, rfl, hb, put_block hg _ _, hnc, hcm, by rw [put_size]; exact hcs, ?_⟩⟩, put_grown _ _⟩
    have hl : (zs.mergeSort fun x y => decide (x ≤ y)).length = zs.length := srt_len zs
    rw [Nat.mul_one, put_take (by simp only [List.size_toArray]; omega) (by simp only [List.size_toArray]; omega)]
    simp only [List.take_of_length_le (show (zs.mergeSort fun x y => decide (x ≤ y)).length ≤ zs.length by omega), srt]
/-- A setting in memory, by the slice that leads to it. -/
def RSet (w : World) (b o : Nat) (s : List Int) : Prop := ∃ a c, w.cell? ⟨b, o, none⟩ = some (.slice a s.length c) ∧ SlOf 1 RI w a s
theorem RSet.mono : Mono RSet := fun _ _ _ _ _ hg ⟨a, c, h, hs⟩ => ⟨a, c, cell_gr hg h, hs.giI hg⟩
/-- Settings of the call's own. -/
def OsAt (base : Nat) (w : World) (os : List OT) : Prop := ∀ o ∈ os, RowS w o.B 3 (nums o.t) ∧ base ≤ o.B
theorem OsAt.gr {base : Nat} {w w' : World} {os : List OT} (h : OsAt base w os) (hg : Gr w w') : OsAt base w' os := fun o ho => ⟨(h o ho).1.gr hg, (h o ho).2⟩
/-- A list of settings of the call's own. -/
theorem sets_at {w : World} {base : Nat} {a : Option Addr} {c : Nat} {os : List OT} {l : List Clk} (hc : cchk l = 0) (h : w.ownsRow base 22 1 (.slice a os.length c) os.length (os.map (encO l.length))) (ho : OsAt base w os) (hk : SetsOk l (os.map (·.t))) : SlOf 1 RSet w a (os.map (·.t)) := by
  intro k hk'
  have hk2 : k < os.length := by simpa using hk'
  obtain ⟨g, cap, e1, h1, _, hcell⟩ := owns_cell h (by omega)
  cases e1
  have hs := hk _ (List.getElem_mem hk')
  refine ⟨g, 0, rfl, ?_⟩
  simp only [List.getElem_map] at hs ⊢
  refine ⟨some ⟨os[k].B, 0, none⟩, os[k].c, ?_, (ho _ (List.getElem_mem hk2)).1.slI (setOk_wide hc hs)⟩
  rw [Nat.zero_add, hcell (k * 1) (by omega), Nat.mul_one, List.getElem?_map, List.getElem?_eq_getElem hk2, hs.1]
  rfl
theorem ranges_owns {w : World} {k B R n cnt base e size m : Nat} {E : Value → Option (DataW Unit × List MemPlace)} {D : DataW Unit} {left : Lit → Bool} {v : Value} {xs : List Value} (h : w.ranges Tryz.prog k E B R n D left cnt) (o : w.ownsRow base e size v m xs) : some B ≠ v.ownBlock ∧ some R ≠ v.ownBlock := by
  obtain ⟨es, clock, since, seen, c0, hb, _, _, _, hr, _⟩ := h
  obtain ⟨_, ⟨rfl, _⟩ | ⟨g', cap, cur, rfl, _, hg', _⟩⟩ := o
  · simp [Value.ownBlock]
  · constructor
    · intro e
      have : B = g' := by simpa [Value.ownBlock] using e
      subst this
      rw [hb] at hg'; cases hg'
    · intro e
      have : R = g' := by simpa [Value.ownBlock] using e
      subst this
      rw [hr] at hg'; cases hg'
end Go.Proofs.YtenehghpmnajpaaGreatDoor
