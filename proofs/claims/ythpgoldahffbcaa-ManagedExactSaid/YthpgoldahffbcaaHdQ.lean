/- Plain laws of Users, Take and Drop together. -/
import Derived.Test.YthpgoldahffbcaaHdU
import Derived.Test.YthpgoldahffbcaaHdY
set_option linter.unusedVariables false
set_option linter.unusedSimpArgs false
namespace Go.Proofs.Ythpgoldahffbcaa
theorem comp_inv (d : Array Int) (hs : ∀ i j, i ≤ j → j < d.size → d[i]! ≤ d[j]!) : ∀ m, m ≤ d.size → (Lib.compactUpTo d m).Pairwise (· < ·) ∧ (∀ x, x ∈ Lib.compactUpTo d m ↔ ∃ j, j < m ∧ d[j]! = x)
  | 0, _ => ⟨by simp [Lib.compactUpTo], by simp [Lib.compactUpTo]⟩
  | m + 1, h => by
    obtain ⟨h1, h2⟩ := comp_inv d hs m (by omega)
    rw [Lib.compactUpTo_succ]
    cases hk : Lib.keeps d m with
    | true =>
      simp only [if_true]
      refine ⟨?_, fun x => ?_⟩
      · rw [List.pairwise_append]
        refine ⟨h1, by simp, fun y hy z hz => ?_⟩
        rw [List.mem_singleton.1 hz]
        obtain ⟨j, hj, rfl⟩ := (h2 y).1 hy
        have e1 := hs j (m - 1) (by omega) (by omega)
        have e2 := hs (m - 1) m (by omega) (by omega)
        have e3 : m = 0 ∨ d[m]! ≠ d[m - 1]! := by simpa [Lib.keeps] using hk
        omega
      · rw [List.mem_append, h2, List.mem_singleton]
        constructor
        · rintro (⟨j, hj, e⟩ | rfl)
          · exact ⟨j, by omega, e⟩
          · exact ⟨m, by omega, rfl⟩
        · rintro ⟨j, hj, e⟩
          by_cases q : j = m
          · subst q; exact .inr e.symm
          · exact .inl ⟨j, by omega, e⟩
    | false =>
      simp only [Bool.false_eq_true, if_false, List.append_nil]
      refine ⟨h1, fun x => ?_⟩
      rw [h2]
      have e3 : m ≠ 0 ∧ d[m]! = d[m - 1]! := by
        have : ¬ (m = 0 ∨ d[m]! ≠ d[m - 1]!) := by simpa [Lib.keeps] using hk
        exact ⟨fun q => this (.inl q), Classical.byContradiction fun q => this (.inr q)⟩
      constructor
      · rintro ⟨j, hj, e⟩
        exact ⟨j, by omega, e⟩
      · rintro ⟨j, hj, e⟩
        by_cases q : j = m
        · subst q; exact ⟨j - 1, by omega, by rw [← e3.2]; exact e⟩
        · exact ⟨j, by omega, e⟩
theorem srt_sorted (zs : List Int) : (srt zs).Pairwise (· ≤ ·) := by
  have := List.pairwise_mergeSort (le := fun x y : Int => decide (x ≤ y)) (fun a b c h1 h2 => by simp at *; omega) (fun a b => by simp; omega) zs
  unfold srt
  refine this.imp ?_
  intro a b h; simpa using h
theorem comp_srt (zs : List Int) : (Lib.compact (srt zs)).Pairwise (· < ·) ∧ ∀ x, x ∈ Lib.compact (srt zs) ↔ x ∈ zs := by
  have hs : ∀ i j, i ≤ j → j < (srt zs).toArray.size → (srt zs).toArray[i]! ≤ (srt zs).toArray[j]! := by
    intro i j hij hj
    rcases Nat.lt_or_eq_of_le hij with q | q
    · have hj' : j < (srt zs).length := by simpa using hj
      rw [getElem!_pos _ i (by simp; omega), getElem!_pos _ j hj]
      simp only [List.getElem_toArray]
      exact (List.pairwise_iff_getElem.1 (srt_sorted zs)) i j (by omega) hj' q
    · subst q; exact Int.le_refl _
  obtain ⟨h1, h2⟩ := comp_inv (srt zs).toArray hs (srt zs).length (by simp)
  refine ⟨h1, fun x => ?_⟩
  have hm : x ∈ srt zs ↔ x ∈ zs := by unfold srt; exact List.mem_mergeSort
  rw [← hm]
  show x ∈ Lib.compactUpTo _ _ ↔ _
  rw [h2]
  constructor
  · rintro ⟨j, hj, rfl⟩
    rw [getElem!_pos _ j (by simpa using hj)]
    simp
  · intro q
    obtain ⟨j, hj, rfl⟩ := List.getElem_of_mem q
    exact ⟨j, hj, by rw [getElem!_pos _ j (by simpa using hj)]; simp⟩
theorem users_mem (l : List Hld) (un d : Int) : d ∈ usersL l un ↔ ∃ x ∈ l, x.unit = un ∧ x.device = d := by
  unfold usersL
  rw [(comp_srt _).2]
  unfold devs
  simp only [List.mem_map, List.mem_filter, beq_iff_eq]
  constructor
  · rintro ⟨x, ⟨h1, h2⟩, h3⟩; exact ⟨x, h1, h2, h3⟩
  · rintro ⟨x, h1, h2, h3⟩; exact ⟨x, ⟨h1, h2⟩, h3⟩
theorem users_nodup (l : List Hld) (un : Int) : (usersL l un).Nodup := by
  refine (comp_srt _).1.imp ?_
  intro a b h; omega
theorem users_wide {l : List Hld} (h : HsWide l) (un : Int) : ∀ k (hk : k < (usersL l un).length), Wide (usersL l un)[k] := by
  intro k hk
  obtain ⟨x, hx, _, e⟩ := (users_mem l un _).1 (List.getElem_mem hk)
  rw [← e]
  exact (h.mem hx).1
theorem users_len (l : List Hld) (un : Int) : (usersL l un).length ≤ l.length := by
  unfold usersL
  refine Nat.le_trans (Lib.compact_length_le _) ?_
  rw [srt_len]
  unfold devs
  rw [List.length_map]
  exact List.length_filter_le _ _
theorem users_snoc {l : List Hld} {x : Hld} (hx : flt l x = 0) : (usersL (l ++ [x]) x.unit).length = (usersL l x.unit).length + 1 := by
  have h0 := (flt_zero.1 hx).2
  have hn : x.device ∉ usersL l x.unit := by
    rw [users_mem]
    rintro ⟨y, hy, h1, h2⟩
    exact (h0 y hy).1 ⟨h2, h1⟩
  have hp : List.Perm (usersL (l ++ [x]) x.unit) (x.device :: usersL l x.unit) := by
    rw [List.perm_ext_iff_of_nodup (users_nodup _ _) (List.nodup_cons.2 ⟨hn, users_nodup _ _⟩)]
    intro d
    rw [users_mem, List.mem_cons, users_mem]
    constructor
    · rintro ⟨y, hy, h1, h2⟩
      rcases List.mem_append.1 hy with q | q
      · exact .inr ⟨y, q, h1, h2⟩
      · rw [List.mem_singleton.1 q] at h2; exact .inl h2.symm
    · rintro (rfl | ⟨y, hy, h1, h2⟩)
      · exact ⟨x, by simp, rfl, rfl⟩
      · exact ⟨y, by simp [hy], h1, h2⟩
  have := hp.length_eq
  simpa using this
theorem users_alone {l : List Hld} {x : Hld} (hx : flt l x = 0) (hk : x.kind = 2) : (usersL (l ++ [x]) x.unit).length = 1 := by
  rw [users_snoc hx]
  have h0 := (flt_zero.1 hx).2
  have : usersL l x.unit = [] := by
    apply List.eq_nil_iff_forall_not_mem.2
    intro d
    rw [users_mem]
    rintro ⟨y, hy, h1, _⟩
    exact (h0 y hy).2 ⟨h1, .inl hk⟩
  rw [this]; rfl
theorem users_in_snoc (l : List Hld) (x : Hld) : x.device ∈ usersL (l ++ [x]) x.unit := (users_mem _ _ _).2 ⟨x, by simp, rfl, rfl⟩
theorem flt_five {l : List Hld} {x : Hld} (h : flt l x = 5) : x.device ∈ usersL l x.unit := by
  unfold flt at h
  split at h
  · omega
  · split at h
    · rename_i q
      obtain ⟨y, hy, h1, h2⟩ := q
      exact (users_mem _ _ _).2 ⟨y, hy, h2, h1⟩
    · split at h <;> omega
theorem flt_forty {l : List Hld} {x : Hld} (h : flt l x = 40) : 0 < (usersL l x.unit).length := by
  unfold flt at h
  split at h
  · omega
  · split at h
    · omega
    · split at h
      · rename_i q
        obtain ⟨y, hy, h1, _⟩ := q
        exact List.length_pos_of_mem ((users_mem _ _ _).2 ⟨y, hy, h1, rfl⟩)
      · omega
theorem flt_cases {l : List Hld} {x : Hld} (h : ¬ RngBad x) : flt l x = 0 ∨ flt l x = 5 ∨ flt l x = 40 := by
  unfold flt
  rw [if_neg h]
  split
  · exact .inr (.inl rfl)
  · split
    · exact .inr (.inr rfl)
    · exact .inl rfl
theorem drop_back {l : List Hld} {x : Hld} (hr : Right l) (hl : l.length < 96) (hx : flt l x = 0) : dropE (l ++ [x]) x = 0 ∧ dropP (l ++ [x]) x = l := by
  have hv : vld (l ++ [x]) = 0 := right_iff.2 (hr.snoc hl hx)
  have h0 := (flt_zero.1 hx).2
  have hi : ixO (l ++ [x]) x = some l.length := by
    refine ix_some (by simp) (by simp) fun j hj hjl => ?_
    rw [List.getElem_append_left hjl]
    intro e
    exact (h0 l[j] (List.getElem_mem hjl)).1 ⟨by rw [e], by rw [e]⟩
  have hE : dropE (l ++ [x]) x = 0 := by
    rw [dropE, if_neg (by rw [hv]; decide), hi]
    simp
  refine ⟨hE, ?_⟩
  rw [dropP, if_pos hE, hi]
  simp
end Go.Proofs.Ythpgoldahffbcaa
