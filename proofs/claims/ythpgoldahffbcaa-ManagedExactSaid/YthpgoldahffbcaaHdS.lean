/- slices.Sort and slices.Compact of numbers in a row of one's own, off the shelf (the text ..Shelf is written by the kit's lay-shelf and lay-plain). -/
import Derived.Test.YthpgoldahffbcaaRox
import Derived.Test.YthpgoldahffbcaaShelf
set_option linter.unusedVariables false
set_option linter.unusedSimpArgs false
namespace Go.Proofs.Ythpgoldahffbcaa
open Go.RowKit
def srt (zs : List Int) : List Int := zs.mergeSort (fun x y => decide (x ≤ y))
theorem srt_len (zs : List Int) : (srt zs).length = zs.length := List.length_mergeSort _
def SortsI (w : World) (base : Nat) (v : Value) (zs : List Int) (e : Ending) (w' : World) : Prop := e = .returned (.tuple #[]) ∧ w'.ownsRow base 3 1 v zs.length (nums (srt zs)) ∧ w.grownBy w' v.ownBlock
def CompsI (w : World) (base : Nat) (v : Value) (zs : List Int) (e : Ending) (w' : World) : Prop := ∃ v', e = .returned v' ∧ w'.ownsRow base 3 1 v' (Lib.compact zs).length (nums (Lib.compact zs)) ∧ w.grownBy w' v.ownBlock
theorem put_block {w : World} {g e q : Nat} {cur : Array Value} (hb : w.heap[g]? = some (.cells cur e (0, 0))) (d : Array Int) (os : Array Obj) :
    (Sort.grow (Sort.putRow (Value.int .i64) (Sort.ahead w q) g 0 d) os).heap[g]? = some (.cells (Sort.putCells (Value.int .i64) 0 d cur) e (0, 0)) := by
  have hg := (Array.getElem?_eq_some_iff.1 hb).1
  simp only [Sort.grow, Sort.putRow, Sort.mapBlock, Sort.ahead]
  rw [Array.getElem?_append_left (by simpa using hg), Array.getElem?_modify, if_pos rfl, hb]
  rfl
theorem put_grown {w : World} {g q : Nat} (d : Array Int) (os : Array Obj) : w.grownBy (Sort.grow (Sort.putRow (Value.int .i64) (Sort.ahead w q) g 0 d) os) (some g) := by
  refine ⟨rfl, rfl, rfl, ?_, fun k hk hne => ?_⟩
  · simp [Sort.grow, Sort.putRow, Sort.mapBlock, Sort.ahead]
  · simp only [Sort.grow, Sort.putRow, Sort.mapBlock, Sort.ahead]
    rw [Array.getElem?_append_left (by simpa using hk), Array.getElem?_modify, if_neg (fun e => hne (by rw [e]))]
theorem put_take {cur : Array Value} {d : Array Int} {m : Nat} (hd : d.size ≤ cur.size) (hm : m ≤ d.size) : (Sort.putCells (Value.int .i64) 0 d cur).toList.take m = nums (d.toList.take m) := by
  apply List.ext_getElem
  · simp [Sort.putCells, nums]; omega
  · intro k h1 h2
    have hk : k < m := by simp [Sort.putCells] at h1; omega
    simp only [Sort.putCells, List.getElem_take, Array.getElem_toList, Array.getElem_mapIdx, nums, List.getElem_map]
    rw [if_pos (by omega), Nat.sub_zero, getElem!_pos d k (by omega)]
theorem put_size (d : Array Int) (cur : Array Value) : (Sort.putCells (Value.int .i64) 0 d cur).size = cur.size := by simp [Sort.putCells]
theorem own_holds {w : World} {g : Nat} {cur : Array Value} {zs : List Int} (hb : w.heap[g]? = some (.cells cur 3 (0, 0))) (ht : cur.toList.take (zs.length * 1) = nums zs) : Sort.Holds (Value.int .i64) w g 0 zs.toArray := by
  have hr : RowS w g 3 (nums zs) := ⟨cur.toList.drop (zs.length * 1), by rw [← ht, List.take_append_drop]; exact hb⟩
  intro j hj
  have hj' : j < zs.length := by simpa using hj
  refine ⟨?_, hr.free _⟩
  rw [Nat.zero_add, hr.iat j hj', getElem!_pos zs.toArray j hj]
  simp
theorem sortI_any (zs : List Int) (v : Value) (base : Nat) (w : World) (h : w.ownsRow base 3 1 v zs.length (nums zs)) (hf : zs.length ≤ 1000000) :
    Calls Try.prog 42 #[v] w (SortsI w base v zs) := by
  obtain ⟨h0, ⟨rfl, hn⟩ | ⟨g, cap, cur, rfl, hb, hg, hnc, hcm, hcs, htk⟩⟩ := h
  · have hz : zs = [] := List.eq_nil_of_length_eq_zero hn
    subst hz
    refine (Try.slices_Sort_int_none none 0 w).mono ?_
    rintro e w' ⟨rfl, rfl⟩
    exact ⟨rfl, ⟨by simp [srt, nums], .inl ⟨rfl, rfl⟩⟩, World.grownBy.refl _ _⟩
  · refine (Try.slices_Sort_int g 0 cap zs w (own_holds hg htk) (Array.getElem?_eq_some_iff.1 hg).1 (by omega)).mono ?_
    rintro e w' ⟨rfl, q, os, rfl⟩
    refine ⟨rfl, ⟨by simp [nums, srt_len], .inr ⟨g, cap, _, rfl, hb, put_block hg _ _, hnc, hcm, by rw [put_size]; exact hcs, ?_⟩⟩, put_grown _ _⟩
    have hl : (zs.mergeSort fun x y => decide (x ≤ y)).length = zs.length := srt_len zs
    rw [Nat.mul_one, put_take (by simp only [List.size_toArray]; omega) (by simp only [List.size_toArray]; omega)]
    simp only [List.take_of_length_le (show (zs.mergeSort fun x y => decide (x ≤ y)).length ≤ zs.length by omega), srt]
theorem compactI_any (zs : List Int) (v : Value) (base : Nat) (w : World) (h : w.ownsRow base 3 1 v zs.length (nums zs)) (hf : zs.length ≤ 1000000) :
    Calls Try.prog 43 #[v] w (CompsI w base v zs) := by
  obtain ⟨h0, ⟨rfl, hn⟩ | ⟨g, cap, cur, rfl, hb, hg, hnc, hcm, hcs, htk⟩⟩ := h
  · have hz : zs = [] := List.eq_nil_of_length_eq_zero hn
    subst hz
    refine (Try.slices_Compact_int_empty none 0 w).mono ?_
    rintro e w' ⟨rfl, rfl⟩
    exact ⟨_, rfl, ⟨by simp [Lib.compact, Lib.compactUpTo, nums], .inl ⟨rfl, by simp [Lib.compact, Lib.compactUpTo]⟩⟩, World.grownBy.refl _ _⟩
  · refine (Try.slices_Compact_int g 0 cap zs w (own_holds hg htk) (by omega) (by omega)).mono ?_
    rintro e w' ⟨rfl, q, rfl⟩
    have hcl : (Lib.compact zs).length ≤ zs.length := Lib.compact_length_le zs
    have hgr := put_grown (w := w) (g := g) (q := q) (Lib.compact zs ++ List.replicate (zs.length - (Lib.compact zs).length) 0).toArray #[]
    have hbl := put_block (q := q) hg (Lib.compact zs ++ List.replicate (zs.length - (Lib.compact zs).length) 0).toArray #[]
    simp only [Sort.grow, Array.append_empty] at hgr hbl
    refine ⟨_, rfl, ⟨by simp [nums], .inr ⟨g, cap, _, rfl, hb, hbl, by omega, hcm, by rw [put_size]; exact hcs, ?_⟩⟩, hgr⟩
    rw [Nat.mul_one, put_take (by simp; omega) (by simp)]
    simp
end Go.Proofs.Ythpgoldahffbcaa
