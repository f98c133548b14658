/- Lemmas and contracts for the proof of PrintDiffers (several texts in one, printed by wip/tools/pack.py): PzD. -/
import Derived.Test.YtgembejpiecfcaaGreatDoorPd1pc
set_option maxRecDepth 100000
set_option maxHeartbeats 16000000
set_option linter.unusedVariables false
set_option linter.unusedSimpArgs false
namespace Go.Proofs.YtgembejpiecfcaaGreatDoor
open Go.RowKit
open Classical
def nodT (ts : Tr) (i : Nat) : Nod := ts.getD i default
structure Acc (ts : Tr) : Prop where
  pos : 0 < ts.length
  few : ts.length ≤ 120
  root : (nodT ts 0).parent = -1 ∧ (nodT ts 0).name = []
  par : ∀ i, 0 < i → i < ts.length → 0 ≤ (nodT ts i).parent ∧ (nodT ts i).parent < i ∧ nameOk (nodT ts i).name = true
  prp : ∀ i, i < ts.length → (nodT ts i).props.length ≤ 24 ∧ ∀ p ∈ (nodT ts i).props, propOk p.name = true ∧ p.val.length ≤ 256
  clm : ∀ i, 0 < i → i < ts.length → 0 ≤ climb ts (nodT ts i).parent i ((i : Int) - 1)
theorem walkN_get {ts : Tr} : ∀ n, (walkN ts n).isSome = true → ∀ i, 0 < i → i < n → 0 ≤ climb ts (nodT ts i).parent i ((i : Int) - 1) := by
  intro n
  induction n with
  | zero => intro _ i _ h; omega
  | succ n ih =>
    intro h i h0 hi
    rw [walkN] at h
    cases hw : walkN ts n with
    | none => rw [hw] at h; simp at h
    | some last =>
      rw [hw] at h
      rcases Nat.lt_or_ge i n with q | q
      · exact ih (by rw [hw]; rfl) i h0 q
      · obtain rfl : i = n := by omega
        simp only at h
        split at h
        · rw [if_neg (by omega)] at h
          split at h
          · simp at h
          · rename_i q2
            unfold nodT
            omega
        · simp at h
theorem acc_of {ts : Tr} (h : chkT ts = 0) : Acc ts := by
  unfold chkT at h
  split at h
  · cases h
  rename_i h1
  split at h
  · cases h
  rename_i h2
  split at h
  · cases h
  rename_i h3
  split at h
  · cases h
  rename_i h4
  have hn : ∀ i, i < ts.length → nodNm i (nodT ts i) = true := fun i hi => by
    have h3 : namedT ts = true := by simpa using h3
    exact List.all_eq_true.1 h3 i (List.mem_range.2 hi)
  have hb : ∀ i, i < ts.length → bigN (nodT ts i) = false := fun i hi => by
    have : nodT ts i ∈ ts := by
      unfold nodT
      rw [List.getD_eq_getElem?_getD, List.getElem?_eq_getElem hi]
      exact List.getElem_mem hi
    cases hz : bigN (nodT ts i) with
    | false => rfl
    | true => exact absurd (List.any_eq_true.2 ⟨_, this, hz⟩) h2
  refine ⟨by omega, by omega, ?_, fun i h0 hi => ?_, fun i hi => ?_, fun i h0 hi => walkN_get ts.length (by cases hz : walkN ts ts.length with | none => rw [hz] at h4; simp at h4 | some _ => rfl) i h0 hi⟩
  · have := hn 0 (by omega)
    unfold nodNm at this
    rw [if_pos rfl] at this
    simp at this
    exact this.1
  · have := hn i hi
    unfold nodNm at this
    rw [if_neg (by omega)] at this
    simp at this
    exact ⟨this.1.1.1, this.1.1.2, this.1.2⟩
  · have h5 := hn i hi
    have h6 := hb i hi
    unfold nodNm at h5
    unfold bigN at h6
    rw [Bool.and_eq_true] at h5
    rw [Bool.or_eq_false_iff] at h6
    refine ⟨by simpa using h6.1, fun p hp => ⟨List.all_eq_true.1 h5.2 p hp, ?_⟩⟩
    have := List.any_eq_false.1 h6.2 p hp
    simpa using this
theorem prS_succ {ts : Tr} (i : Nat) : prS ts (i + 1) = i :: lvS (nodT ts i).parent (prS ts i) := rfl
theorem prL_succ {ts : Tr} (i : Nat) : prL ts (i + 1) = prL ts i ++ lvL (nodT ts i).parent (prS ts i) ++ ndL i (nodT ts i) (lvS (nodT ts i).parent (prS ts i)).length := rfl
theorem par_nodT (ts : Tr) (u : Nat) : Go.Proofs.YtgembejpiecfcaaGreatDoor.par ts (u : Int) = (nodT ts u).parent := by unfold Go.Proofs.YtgembejpiecfcaaGreatDoor.par nodT; rw [Int.toNat_natCast]
theorem lv_climb {ts : Tr} (h : Acc ts) {i : Nat} (hi : i < ts.length) (IH : ∀ u, u < i → 0 < u → lvS (nodT ts u).parent (prS ts u) = prS ts ((nodT ts u).parent.toNat + 1)) {p : Nat} :
    ∀ f u : Nat, u < i → u < f → 0 ≤ climb ts (p : Int) f (u : Int) → lvS (p : Int) (prS ts (u + 1)) = prS ts (p + 1) := by
  intro f
  induction f with
  | zero => intro u _ hf; omega
  | succ f ih =>
    intro u hu hf hc
    rw [prS_succ, lvS]
    by_cases e : (u : Int) = p
    · obtain rfl : u = p := by omega
      rw [if_pos rfl, ← prS_succ]
    · rw [if_neg e]
      rw [climb, if_neg (by omega), if_neg e, par_nodT] at hc
      by_cases h0 : u = 0
      · subst h0
        rw [h.root.1] at hc
        cases f with
        | zero => rw [climb] at hc; omega
        | succ f => rw [climb, if_pos (by omega)] at hc; omega
      · obtain ⟨q1, q2, _⟩ := h.par u (by omega) (by omega)
        rw [IH u hu (by omega)]
        have e2 : ((nodT ts u).parent.toNat : Int) = (nodT ts u).parent := by omega
        rw [← e2] at hc
        exact ih _ (by omega) (by omega) hc
theorem lv_par {ts : Tr} (h : Acc ts) : ∀ i, i < ts.length → 0 < i → lvS (nodT ts i).parent (prS ts i) = prS ts ((nodT ts i).parent.toNat + 1) := by
  intro i
  induction i using Nat.strongRecOn with
  | ind i ih =>
    intro hi h0
    obtain ⟨q1, q2, _⟩ := h.par i h0 hi
    have hc := h.clm i h0 hi
    have e2 : ((nodT ts i).parent.toNat : Int) = (nodT ts i).parent := by omega
    have e3 : ((i : Int) - 1) = ((i - 1 : Nat) : Int) := by omega
    rw [e3, ← e2] at hc
    have := lv_climb h hi (fun u hu hu0 => ih u hu (by omega) hu0) i (i - 1) (by omega) (by omega) hc
    rw [e2, show i - 1 + 1 = i by omega] at this
    exact this
theorem prS_head {ts : Tr} (i : Nat) : ∃ r, prS ts (i + 1) = i :: r := ⟨_, prS_succ i⟩
/-! Reading back. -/
def bldS (s : List Nat × Tr) (x : Nat × Ln) : List Nat × Tr := match x.2 with
  | .opn nm => (s.2.length :: s.1, s.2 ++ [⟨match s.1 with | [] => -1 | k :: _ => (k : Int), if s.2.length = 0 then [] else nm, []⟩])
  | .prop n v => (s.1, s.2.dropLast ++ (s.2.getLast?.map (fun y => (⟨y.parent, y.name, y.props ++ [⟨n, v⟩]⟩ : Nod))).toList)
  | .cls => (s.1.tail, s.2)
theorem bld_lv (p : Int) (ns : Tr) : ∀ st, (lvL p st).foldl bldS (st, ns) = (lvS p st, ns)
  | [] => rfl
  | k :: st => by
    rw [lvL, lvS]
    split
    · rfl
    · rw [List.foldl_cons]
      exact bld_lv p ns st
theorem bld_props (st : List Nat) (ns : Tr) (a : Int) (nm : St) (d : Nat) : ∀ (ps qs : List Prp), (ps.map (fun p => (d + 1, Ln.prop p.name p.val))).foldl bldS (st, ns ++ [⟨a, nm, qs⟩]) = (st, ns ++ [⟨a, nm, qs ++ ps⟩])
  | [], qs => by simp
  | p :: ps, qs => by
    rw [List.map_cons, List.foldl_cons]
    have e : bldS (st, ns ++ [⟨a, nm, qs⟩]) (d + 1, Ln.prop p.name p.val) = (st, ns ++ [⟨a, nm, qs ++ [p]⟩]) := by simp [bldS]
    rw [e, bld_props st ns a nm d ps]
    simp
theorem bld_pr {ts : Tr} (h : Acc ts) : ∀ i, i ≤ ts.length → (prL ts i).foldl bldS ([], []) = (prS ts i, ts.take i) := by
  intro i
  induction i with
  | zero => intro _; rfl
  | succ i ih =>
    intro hi
    rw [prL_succ, List.foldl_append, List.foldl_append, ih (by omega), bld_lv, ndL, List.foldl_cons]
    have hl : (ts.take i).length = i := by rw [List.length_take]; omega
    have ht : ts.take (i + 1) = ts.take i ++ [nodT ts i] := by
      rw [List.take_succ_eq_append_getElem (by omega)]
      unfold nodT
      rw [List.getD_eq_getElem?_getD, List.getElem?_eq_getElem (by omega)]
      rfl
    have hp : (match lvS (nodT ts i).parent (prS ts i) with | [] => (-1 : Int) | k :: _ => (k : Int)) = (nodT ts i).parent := by
      by_cases h0 : i = 0
      · subst h0
        rw [h.root.1]; rfl
      · rw [lv_par h i (by omega) (by omega)]
        obtain ⟨r, hr⟩ := prS_head (ts := ts) ((nodT ts i).parent.toNat)
        rw [hr]
        have := (h.par i (by omega) (by omega)).1
        simp only
        omega
    have e : bldS (lvS (nodT ts i).parent (prS ts i), ts.take i) ((lvS (nodT ts i).parent (prS ts i)).length, Ln.opn (if i = 0 then [47] else (nodT ts i).name)) = (i :: lvS (nodT ts i).parent (prS ts i), ts.take i ++ [⟨(nodT ts i).parent, (nodT ts i).name, []⟩]) := by
      unfold bldS
      simp only [hl]
      rw [hp]
      by_cases h0 : i = 0
      · subst h0
        rw [if_pos rfl, h.root.2]
      · rw [if_neg h0, if_neg h0]
    rw [e, bld_props, ht, prS_succ]
    simp
theorem treeL_inj {x y : Tr} (hx : Acc x) (hy : Acc y) (h : treeL x = treeL y) : x = y := by
  have key : ∀ z : Tr, Acc z → ((treeL z).foldl bldS ([], [])).2 = z := by
    intro z hz
    unfold treeL
    rw [List.foldl_append, bld_pr hz _ (Nat.le_refl _), bld_lv]
    simp
  rw [← key x hx, ← key y hy, h]
/-! The lines of an accepted tree are right ones. -/
theorem name_ch {s : St} (h : nameOk s = true) : s ≠ [] ∧ s.all nmCh = true := by
  unfold nameOk at h
  simp only [Bool.and_eq_true] at h
  refine ⟨?_, ?_⟩
  · rintro rfl
    exact absurd h.1.1.1 (by decide)
  · rw [List.all_eq_true]
    intro c hc
    unfold nmCh
    rw [List.all_eq_true.1 h.2 c hc]; rfl
theorem prop_ch {s : St} (h : propOk s = true) : s ≠ [] ∧ s.all nmCh = true := by
  unfold propOk at h
  rw [Bool.and_eq_true] at h
  obtain ⟨h1, h2⟩ := name_ch h.1
  cases s with
  | nil => exact absurd rfl h1
  | cons c s =>
    refine ⟨by simp, ?_⟩
    unfold undr at h2
    by_cases hc : c = 35
    · subst hc
      simp at h2
      rw [List.all_cons, show nmCh 35 = true from by decide, Bool.true_and, List.all_eq_true]
      exact h2.2
    · have : ¬ ((c :: s).head? = some 35) := by simp; exact hc
      rw [if_neg this] at h2
      exact h2
theorem lvL_ok (p : Int) : ∀ st, ∀ x ∈ lvL p st, LnOk x.2
  | [], x, h => by simp [lvL] at h
  | k :: st, x, h => by
    rw [lvL] at h
    split at h
    · simp at h
    · rcases List.mem_cons.1 h with rfl | h
      · exact ⟨fun n e => (by cases e), fun n v e => (by cases e)⟩
      · exact lvL_ok p st x h
theorem ndL_ok {ts : Tr} (h : Acc ts) {i : Nat} (hi : i < ts.length) (d : Nat) : ∀ x ∈ ndL i (nodT ts i) d, LnOk x.2 := by
  intro x hx
  unfold ndL at hx
  rcases List.mem_cons.1 hx with rfl | hx
  · refine ⟨fun n e => ?_, fun n v e => (by cases e)⟩
    cases e
    by_cases h0 : i = 0
    · rw [if_pos h0]; exact ⟨by simp, by decide⟩
    · rw [if_neg h0]; exact name_ch (h.par i (by omega) hi).2.2
  · obtain ⟨p, hp, rfl⟩ := List.mem_map.1 hx
    refine ⟨fun n e => (by cases e), fun n v e => ?_⟩
    cases e
    exact prop_ch ((h.prp i hi).2 p hp).1
theorem treeL_ok {ts : Tr} (h : Acc ts) : ∀ x ∈ treeL ts, LnOk x.2 := by
  have hp : ∀ i, i ≤ ts.length → ∀ x ∈ prL ts i, LnOk x.2 := by
    intro i
    induction i with
    | zero => intro _ x hx; simp [prL] at hx
    | succ i ih =>
      intro hi x hx
      rw [prL_succ] at hx
      rcases List.mem_append.1 hx with hx | hx
      · rcases List.mem_append.1 hx with hx | hx
        · exact ih (by omega) x hx
        · exact lvL_ok _ _ x hx
      · exact ndL_ok h (by omega) _ x hx
  intro x hx
  unfold treeL at hx
  rcases List.mem_append.1 hx with hx | hx
  · exact hp _ (Nat.le_refl _) x hx
  · exact lvL_ok _ _ x hx
theorem treeT_inj {x y : Tr} (hx : Acc x) (hy : Acc y) (h : treeT x = treeT y) : x = y :=
  treeL_inj hx hy (textL_inj _ _ (treeL_ok hx) (treeL_ok hy) h)
end Go.Proofs.YtgembejpiecfcaaGreatDoor
