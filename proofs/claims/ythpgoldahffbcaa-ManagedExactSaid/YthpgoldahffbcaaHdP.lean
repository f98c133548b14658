/- Plain laws of holds. -/
import Derived.Test.YthpgoldahffbcaaHdA
set_option linter.unusedVariables false
set_option linter.unusedSimpArgs false
namespace Go.Proofs.Ythpgoldahffbcaa
/-- Holds that are right: each in its range, no two that exclude each other. -/
structure Right (l : List Hld) : Prop where
  len : l.length ≤ 96
  rng : ∀ x ∈ l, ¬ RngBad x
  par : l.Pairwise (fun y x => ¬ dup x y ∧ ¬ own x y)
theorem flt_zero {l : List Hld} {x : Hld} : flt l x = 0 ↔ ¬ RngBad x ∧ ∀ y ∈ l, ¬ dup x y ∧ ¬ own x y := by
  unfold flt
  by_cases h1 : RngBad x
  · simp [h1]
  · rw [if_neg h1]
    by_cases h2 : ∃ y ∈ l, dup x y
    · rw [if_pos h2]
      obtain ⟨y, hy, hd⟩ := h2
      exact ⟨fun h => absurd h (by decide), fun h => absurd hd (h.2 y hy).1⟩
    · rw [if_neg h2]
      by_cases h3 : ∃ y ∈ l, own x y
      · rw [if_pos h3]
        obtain ⟨y, hy, hd⟩ := h3
        exact ⟨fun h => absurd h (by decide), fun h => absurd hd (h.2 y hy).2⟩
      · rw [if_neg h3]
        exact ⟨fun _ => ⟨h1, fun y hy => ⟨fun q => h2 ⟨y, hy, q⟩, fun q => h3 ⟨y, hy, q⟩⟩⟩, fun _ => rfl⟩
theorem right_iff {l : List Hld} : vld l = 0 ↔ Right l := by
  rw [vld_zero]
  constructor
  · rintro ⟨h1, h2⟩
    refine ⟨h1, fun x hx => ?_, ?_⟩
    · obtain ⟨k, hk, rfl⟩ := List.getElem_of_mem hx
      exact (flt_zero.1 (h2 k hk)).1
    · rw [List.pairwise_iff_getElem]
      intro i j hi hj hij
      refine (flt_zero.1 (h2 j hj)).2 l[i] ?_
      rw [List.mem_take_iff_getElem]
      exact ⟨i, by omega, rfl⟩
  · rintro ⟨h1, h2, h3⟩
    refine ⟨h1, fun k hk => flt_zero.2 ⟨h2 _ (List.getElem_mem hk), fun y hy => ?_⟩⟩
    rw [List.mem_take_iff_getElem] at hy
    obtain ⟨i, hi, rfl⟩ := hy
    exact (List.pairwise_iff_getElem.1 h3) i k (by omega) hk (by omega)
theorem Right.filter {l : List Hld} (h : Right l) (p : Hld → Bool) : Right (l.filter p) where
  len := Nat.le_trans (List.length_filter_le _ _) h.len
  rng := fun x hx => h.rng x (List.mem_filter.1 hx).1
  par := h.par.filter p
theorem Right.snoc {l : List Hld} {x : Hld} (h : Right l) (hl : l.length < 96) (hx : flt l x = 0) : Right (l ++ [x]) where
  len := by simp; omega
  rng := fun y hy => by
    rcases List.mem_append.1 hy with q | q
    · exact h.rng y q
    · rw [List.mem_singleton.1 q]; exact (flt_zero.1 hx).1
  par := by
    rw [List.pairwise_append]
    refine ⟨h.par, by simp, fun y hy z hz => ?_⟩
    rw [List.mem_singleton.1 hz]
    exact (flt_zero.1 hx).2 y hy
theorem takeE_zero {l : List Hld} {x : Hld} (h : takeE l x = 0) : Right l ∧ l.length < 96 ∧ flt l x = 0 := by
  unfold takeE at h
  split at h
  · omega
  · rename_i q
    split at h
    · omega
    · exact ⟨right_iff.1 (Classical.not_not.1 q), by omega, h⟩
theorem takeE_of {l : List Hld} {x : Hld} (h : Right l) (hl : l.length < 96) (hx : flt l x = 0) : takeE l x = 0 := by
  rw [takeE, if_neg (by rw [right_iff.2 h]; decide), if_neg (by omega), hx]
theorem right_nil : Right [] := ⟨by simp, by simp, by simp⟩
theorem split_len (l : List Hld) (dv : Int) : (l.filter (fun x : Hld => x.device != dv)).length + (l.filter (fun x : Hld => x.device == dv)).length = l.length := by
  induction l with
  | nil => rfl
  | cons x l ih =>
    simp only [List.filter_cons, bne] at ih ⊢
    cases h : (x.device == dv) <;> simp at ih ⊢ <;> omega
theorem filter_gone (l : List Hld) (dv : Int) : (l.filter (fun x : Hld => x.device != dv)).filter (fun x : Hld => x.device == dv) = [] := by
  rw [List.filter_filter]
  apply List.filter_eq_nil_iff.2
  intro x _
  simp
theorem filter_kept (l : List Hld) (dv k : Int) (hk : k ≠ dv) : (l.filter (fun x : Hld => x.device != dv)).filter (fun x : Hld => x.device == k) = l.filter (fun x : Hld => x.device == k) := by
  rw [List.filter_filter]
  congr 1
  funext x
  by_cases h : x.device = k
  · simp [h, hk]
  · simp [h]
theorem reverse_at {l : List Hld} {i : Nat} (h : i < l.length) (h' : l.length - 1 - i < l.reverse.length) : l.reverse[l.length - 1 - i] = l[i] := by
  rw [List.getElem_reverse]
  congr 1; omega
/-- The hold that the i-th step of ManagedFull takes. -/
def fullH (i : Nat) : Hld := ⟨(i % 12 : Nat), 2, i⟩
def fullL (n : Nat) : List Hld := (List.range n).map fullH
theorem fullL_len (n : Nat) : (fullL n).length = n := by simp [fullL]
theorem fullL_succ (n : Nat) : fullL (n + 1) = fullL n ++ [fullH n] := by simp [fullL, List.range_succ]
theorem fullL_at (n k : Nat) (h : k < (fullL n).length) : (fullL n)[k] = fullH k := by simp [fullL]
theorem full_flt (n : Nat) : flt (fullL n) (fullH n) = 0 := by
  refine flt_zero.2 ⟨?_, fun y hy => ?_⟩
  · unfold RngBad fullH; simp only; omega
  · obtain ⟨i, hi, rfl⟩ := List.mem_map.1 hy
    have := List.mem_range.1 hi
    refine ⟨fun q => ?_, fun q => ?_⟩
    · have := q.2; simp only [fullH] at this; omega
    · have := q.1; simp only [fullH] at this; omega
theorem full_right (n : Nat) (hn : n ≤ 96) : Right (fullL n) := by
  induction n with
  | zero => exact right_nil
  | succ n ih =>
    rw [fullL_succ]
    exact (ih (by omega)).snoc (by rw [fullL_len]; omega) (full_flt n)
theorem full_take (n : Nat) (hn : n < 96) : takeE (fullL n) (fullH n) = 0 := takeE_of (full_right n (by omega)) (by rw [fullL_len]; exact hn) (full_flt n)
theorem full_limit : takeE (fullL 96) (fullH 96) = 3 := by
  rw [takeE, if_neg (by rw [right_iff.2 (full_right 96 (by omega))]; decide), if_pos (by rw [fullL_len]; omega)]
theorem full_back (n : Nat) (hn : 4 ≤ n) : 0 < ((fullL n).filter (fun x : Hld => x.device == 3)).length := by
  refine List.length_pos_of_mem (a := fullH 3) (List.mem_filter.2 ⟨?_, by decide⟩)
  exact List.mem_map.2 ⟨3, List.mem_range.2 (by omega), rfl⟩
theorem full_left (n : Nat) (hn : 4 ≤ n) (hn2 : n ≤ 96) : takeE ((fullL n).filter (fun x : Hld => x.device != 3)) ⟨3, 1, 5000⟩ = 0 := by
  have hr := (full_right n hn2).filter (fun x : Hld => x.device != 3)
  have hl := split_len (fullL n) 3
  have hb := full_back n hn
  rw [fullL_len] at hl
  refine takeE_of hr (by omega) (flt_zero.2 ⟨by decide, fun y hy => ?_⟩)
  have hy' := (List.mem_filter.1 hy).1
  obtain ⟨i, hi, rfl⟩ := List.mem_map.1 hy'
  have := List.mem_range.1 hi
  refine ⟨fun q => ?_, fun q => ?_⟩
  · have := q.2; simp only [fullH] at this; omega
  · have := q.1; simp only [fullH] at this; omega
/-- The example of the chapter. -/
def saneL : List Hld := [⟨0, 1, 3⟩, ⟨1, 1, 3⟩]
theorem sane_valid : vld saneL = 0 := by decide
theorem sane_own : takeE saneL ⟨2, 2, 3⟩ = 40 := by decide
theorem sane_ok : takeE saneL ⟨2, 1, 3⟩ = 0 := by decide
end Go.Proofs.Ythpgoldahffbcaa
