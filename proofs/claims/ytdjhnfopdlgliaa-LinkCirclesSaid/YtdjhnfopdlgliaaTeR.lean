/- Sorting and compacting rows of the call's own. -/
import Derived.Test.YtdjhnfopdlgliaaTeQ
set_option linter.unusedVariables false
set_option linter.unusedSimpArgs false
namespace Go.Proofs.Ytdjhnfopdlgliaa
open Go.RowKit
open Classical

def srt (zs : List Int) : List Int := zs.mergeSort (fun x y => decide (x ≤ y))
theorem srt_len (zs : List Int) : (srt zs).length = zs.length := List.length_mergeSort _
def SortsI (w : World) (base : Nat) (v : Value) (zs : List Int) (e : Ending) (w' : World) : Prop := e = .returned (.tuple #[]) ∧ w'.ownsRow base 3 1 v zs.length (nums (srt zs)) ∧ w.grownBy w' v.ownBlock
theorem put_block {w : World} {g e q : Nat} {cur : Array Value} (hb : w.heap[g]? = some (.cells cur e (0, 0))) (d : Array Int) (os : Array Obj) :
    (Sort.grow (Sort.putRow (Value.int .i64) (Sort.ahead w q) g 0 d) os).heap[g]? = some (.cells (Sort.putCells (Value.int .i64) 0 d cur) e (0, 0)) := by
  have hg := (Array.getElem?_eq_some_iff.1 hb).1
  simp only [Sort.grow, Sort.putRow, Sort.mapBlock, Sort.ahead]
  rw [Array.getElem?_append_left (by simpa using hg), Array.getElem?_modify, if_pos rfl, hb]
  rfl
theorem put_grown {w : World} {g q : Nat} (d : Array Int) (os : Array Obj) : w.grownBy (Sort.grow (Sort.putRow (Value.int .i64) (Sort.ahead w q) g 0 d) os) (some g) := by
  refine ⟨rfl, rfl, rfl, ?_, fun k hk hne => ?_⟩
  · simp [Sort.grow, Sort.putRow, Sort.mapBlock, Sort.ahead]
  · simp only [Sort.grow, Sort.putRow, Sort.mapBlock, Sort.ahead]
    rw [Array.getElem?_append_left (by simpa using hk), Array.getElem?_modify, if_neg (fun e => hne (by rw [e]))]
theorem put_take {cur : Array Value} {d : Array Int} {m : Nat} (hd : d.size ≤ cur.size) (hm : m ≤ d.size) : (Sort.putCells (Value.int .i64) 0 d cur).toList.take m = nums (d.toList.take m) := by
  apply List.ext_getElem
  · simp [Sort.putCells, nums]; omega
  · intro k h1 h2
    have hk : k < m := by simp [Sort.putCells] at h1; omega
    simp only [Sort.putCells, List.getElem_take, Array.getElem_toList, Array.getElem_mapIdx, nums, List.getElem_map]
    rw [if_pos (by omega), Nat.sub_zero, getElem!_pos d k (by omega)]
theorem put_size (d : Array Int) (cur : Array Value) : (Sort.putCells (Value.int .i64) 0 d cur).size = cur.size := by simp [Sort.putCells]
theorem own_holds {w : World} {g : Nat} {cur : Array Value} {zs : List Int} (hb : w.heap[g]? = some (.cells cur 3 (0, 0))) (ht : cur.toList.take (zs.length * 1) = nums zs) : Sort.Holds (Value.int .i64) w g 0 zs.toArray := by
  have hr : RowS w g 3 (nums zs) := ⟨cur.toList.drop (zs.length * 1), by rw [← ht, List.take_append_drop]; exact hb⟩
  intro j hj
  have hj' : j < zs.length := by simpa using hj
  refine ⟨?_, hr.free _⟩
  rw [Nat.zero_add, hr.iat j hj', getElem!_pos zs.toArray j hj]
  simp
theorem sortI_any (zs : List Int) (v : Value) (base : Nat) (w : World) (h : w.ownsRow base 3 1 v zs.length (nums zs)) (h0 : zs ≠ []) (hf : zs.length ≤ 1000000) :
    Calls Try.prog 24 #[v] w (SortsI w base v zs) := by
  obtain ⟨_, ⟨rfl, hn⟩ | ⟨g, cap, cur, rfl, hb, hg, hnc, hcm, hcs, htk⟩⟩ := h
  · exact absurd (List.eq_nil_of_length_eq_zero hn) h0
  · refine (Try.slices_Sort_int g 0 cap zs w (own_holds hg htk) (Array.getElem?_eq_some_iff.1 hg).1 (by omega)).mono ?_
    rintro e w' ⟨rfl, q, os, rfl⟩
    refine ⟨rfl, ⟨by simp [nums, srt_len], .inr ⟨g, cap, _, rfl, hb, put_block hg _ _, hnc, hcm, by rw [put_size]; exact hcs, ?_⟩⟩, put_grown _ _⟩
    have hl : (zs.mergeSort fun x y => decide (x ≤ y)).length = zs.length := srt_len zs
    rw [Nat.mul_one, put_take (by simp only [List.size_toArray]; omega) (by simp only [List.size_toArray]; omega)]
    simp only [List.take_of_length_le (show (zs.mergeSort fun x y => decide (x ≤ y)).length ≤ zs.length by omega), srt]
theorem sortI_all (zs : List Int) (v : Value) (base : Nat) (w : World) (h : w.ownsRow base 3 1 v zs.length (nums zs)) (hf : zs.length ≤ 1000000) :
    Calls Try.prog 24 #[v] w (SortsI w base v zs) := by
  by_cases h0 : zs = []
  · subst h0
    obtain ⟨a, c, rfl⟩ := owns_slice h
    refine (Try.slices_Sort_int_none a c w).mono ?_
    rintro e w' ⟨rfl, rfl⟩
    exact ⟨rfl, by simpa [srt] using h, World.grownBy.refl _ _⟩
  · exact sortI_any zs v base w h h0 hf
def CompsI (w : World) (base : Nat) (v : Value) (zs : List Int) (e : Ending) (w' : World) : Prop :=
  ∃ v', e = .returned v' ∧ w'.ownsRow base 3 1 v' (Lib.compact zs).length (nums (Lib.compact zs)) ∧ w.grownBy w' v.ownBlock ∧ v'.ownBlock = v.ownBlock
theorem compact_le (zs : List Int) : (Lib.compact zs).length ≤ zs.length := by
  unfold Lib.compact Lib.compactUpTo
  rw [List.length_map]
  have := List.length_filter_le (Lib.keeps zs.toArray) (List.range zs.length)
  rwa [List.length_range] at this
theorem compI_any (zs : List Int) (v : Value) (base : Nat) (w : World) (h : w.ownsRow base 3 1 v zs.length (nums zs)) (hf : zs.length ≤ 1000000) :
    Calls Try.prog 25 #[v] w (CompsI w base v zs) := by
  by_cases h0 : zs = []
  · subst h0
    obtain ⟨a, c, rfl⟩ := owns_slice h
    refine (Try.slices_Compact_int_empty a c w).mono ?_
    rintro e w' ⟨rfl, rfl⟩
    exact ⟨_, rfl, h, World.grownBy.refl _ _, rfl⟩
  · obtain ⟨_, ⟨rfl, hn⟩ | ⟨g, cap, cur, rfl, hb, hg, hnc, hcm, hcs, htk⟩⟩ := h
    · exact absurd (List.eq_nil_of_length_eq_zero hn) h0
    · refine (Try.slices_Compact_int g 0 cap zs w (own_holds hg htk) (by omega) hnc).mono ?_
      rintro e w' ⟨rfl, q, rfl⟩
      have hl := compact_le zs
      have hw : Sort.putRow (Value.int .i64) (Sort.ahead w q) g 0 (Lib.compact zs ++ List.replicate (zs.length - (Lib.compact zs).length) 0).toArray = Sort.grow (Sort.putRow (Value.int .i64) (Sort.ahead w q) g 0 (Lib.compact zs ++ List.replicate (zs.length - (Lib.compact zs).length) 0).toArray) #[] := by
        simp only [Sort.grow, Array.append_empty]
      rw [hw]
      refine ⟨_, rfl, ⟨by simp [nums], .inr ⟨g, cap, _, rfl, hb, put_block hg _ _, by omega, hcm, by rw [put_size]; exact hcs, ?_⟩⟩, put_grown _ _, rfl⟩
      rw [Nat.mul_one, put_take (by simp only [List.size_toArray, List.length_append, List.length_replicate]; omega) (by simp only [List.size_toArray, List.length_append, List.length_replicate]; omega)]
      simp
/-- A row of the list has been turned in place. -/
theorem GAt.turn {base : Nat} {w w' : World} {GB : Nat} {vs : List Value} {gs : List (List Int)} (h : GAt base w GB vs gs) {i : Nat} {v : Value} {g' : List Int} (hi : i < gs.length) (hv : vs[i]? = some v)
    (hown : w'.ownsRow base 3 1 v g'.length (nums g')) (hg : w.grownBy w' v.ownBlock) : GAt base w' GB vs (gs.set i g') := by
  have ovi := h.own i v gs[i] hv (List.getElem?_eq_getElem hi)
  refine ⟨by rw [List.length_set]; exact h.len, h.row.kept hg (h.row.ty.ne ovi (by decide)), fun j u g h1 h2 => ?_, h.ap⟩
  by_cases e : j = i
  · subst e
    rw [List.getElem?_set_self hi] at h2
    cases h2
    rw [hv] at h1
    cases h1
    exact hown
  · rw [List.getElem?_set_ne (Ne.symm e)] at h2
    exact (h.own j u g h1 h2).kept hg (h.ap j i u v e h1 hv)
/-! The graph in plain lists. -/
def addE (g : List (List Int)) (l : Lnk) : List (List Int) := g.set l.node.toNat (g.getD l.node.toNat [] ++ [l.prov])
def rawG (n : Nat) (ls : List Lnk) : List (List Int) := ls.foldl addE (List.replicate n [])
def normG (g : List Int) : List Int := Lib.compact (srt g)
def graphT (ts : Tr) (pn cn : St) : Except Int (List (List Int)) :=
  match allT ts pn cn ts.length with
  | .error e => .error e
  | .ok ls => .ok ((rawG ts.length ls).map normG)
theorem addE_len (g : List (List Int)) (l : Lnk) : (addE g l).length = g.length := by simp [addE]
theorem rawG_snoc (n : Nat) (ls : List Lnk) (l : Lnk) : rawG n (ls ++ [l]) = addE (rawG n ls) l := by simp [rawG, List.foldl_append]
theorem rawG_len (n : Nat) (ls : List Lnk) : (rawG n ls).length = n := by
  have : ∀ (ls : List Lnk) (g : List (List Int)), (ls.foldl addE g).length = g.length := by
    intro ls
    induction ls with
    | nil => intro g; rfl
    | cons l ls ih => intro g; rw [List.foldl_cons, ih, addE_len]
  rw [rawG, this, List.length_replicate]
theorem rawG_row (n : Nat) (ls : List Lnk) : ∀ i (h : i < (rawG n ls).length), (rawG n ls)[i].length ≤ ls.length := by
  have : ∀ (ls : List Lnk) (g : List (List Int)) (m : Nat), (∀ i (h : i < g.length), g[i].length ≤ m) → ∀ i (h : i < (ls.foldl addE g).length), (ls.foldl addE g)[i].length ≤ m + ls.length := by
    intro ls
    induction ls with
    | nil => intro g m hm i h; exact Nat.le_trans (hm i h) (by simp)
    | cons l ls ih =>
      intro g m hm i h
      have := ih (addE g l) (m + 1) (fun j hj => by
        unfold addE at hj ⊢
        rw [List.getElem_set]
        split
        · rename_i e
          rw [List.length_append, List.getD_eq_getElem?_getD]
          rw [List.length_set] at hj
          rw [List.getElem?_eq_getElem (by omega)]
          have := hm l.node.toNat (by omega)
          simp only [Option.getD_some, List.length_cons, List.length_nil]
          omega
        · rw [List.length_set] at hj
          have := hm j hj
          omega) i h
      simp only [List.length_cons]
      simp only [List.foldl_cons] at this ⊢
      omega
  intro i h
  have := this ls (List.replicate n []) 0 (fun j hj => by simp) i h
  exact Nat.le_trans this (by omega)
/-- The nodes of links are nodes. -/
def LnkIn (n : Nat) (l : Lnk) : Prop := ∃ i j : Nat, l.node = i ∧ i < n ∧ l.prov = j ∧ j < n
theorem ofF_in (ts : Tr) (i : Nat) (hi : i < ts.length) (pn cn : St) : ∀ (f : Nat) (l : List Int) (out ls : List Lnk), (∀ x ∈ out, LnkIn ts.length x) → ofF ts i pn cn f l out = .ok ls → ∀ x ∈ ls, LnkIn ts.length x := by
  intro f
  induction f with
  | zero => intro l out ls ho h; injection h with h; subst h; exact ho
  | succ f ih =>
    intro l out ls ho h
    cases l with
    | nil => injection h with h; subst h; exact ho
    | cons p l =>
      unfold ofF at h
      split at h
      · cases h
      · rename_i k hk
        split at h
        · cases h
        · split at h
          · cases h
          · refine ih _ _ _ (fun x hx => ?_) h
            rcases List.mem_append.1 hx with q | q
            · exact ho x q
            · rw [List.mem_singleton.1 q]
              exact ⟨i, k, rfl, hi, rfl, phan_lt hk⟩
theorem allT_in {ts : Tr} {pn cn : St} : ∀ (k : Nat), k ≤ ts.length → ∀ ls, allT ts pn cn k = .ok ls → ∀ x ∈ ls, LnkIn ts.length x := by
  intro k
  induction k with
  | zero => intro _ ls h; injection h with h; subst h; intro x hx; cases hx
  | succ k ih =>
    intro hk ls h
    rw [allT] at h
    split at h
    · cases h
    · rename_i out ho
      split at h
      · cases h
      · rename_i l hl
        injection h with h
        subst h
        intro x hx
        rcases List.mem_append.1 hx with q | q
        · exact ih (by omega) out ho x q
        · unfold ofT at hl
          split at hl
          · injection hl with hl; subst hl; cases q
          · split at hl
            · injection hl with hl; subst hl; cases q
            · split at hl
              · exact ofF_in ts k (by omega) pn cn _ _ _ _ (fun y hy => by cases hy) hl x q
              · cases hl
end Go.Proofs.Ytdjhnfopdlgliaa
