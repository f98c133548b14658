/- Lemmas and contracts for the proof of PrintDiffers (several texts in one, printed by wip/tools/pack.py): VaB VaC TeB VaD. -/
import Derived.Test.YtgembejpiecfcaaGreatDoorPd1pa
set_option maxRecDepth 100000
set_option maxHeartbeats 16000000
set_option linter.unusedVariables false
set_option linter.unusedSimpArgs false
namespace Go.Proofs.YtgembejpiecfcaaGreatDoor
open Go.RowKit
open Classical
def insC (nm : Nat → St) (cs : List Nat) (i : Nat) : List Nat := cs.takeWhile (fun c => !ltS (nm i) (nm c)) ++ i :: cs.dropWhile (fun c => !ltS (nm i) (nm c))
def chl (q : Nat → Nat) (nm : Nat → St) (x : Nat) : Nat → List Nat
  | 0 => []
  | i + 1 => if i ≠ 0 ∧ q i = x then insC nm (chl q nm x i) i else chl q nm x i
def walkF (n : Nat) (q : Nat → Nat) (nm : Nat → St) : Nat → Nat → List Nat
  | 0, x => [x]
  | f + 1, x => x :: (chl q nm x n).flatMap (walkF n q nm f)
theorem mem_insC {nm : Nat → St} {cs : List Nat} {i j : Nat} : j ∈ insC nm cs i ↔ j = i ∨ j ∈ cs := by
  unfold insC
  rw [List.mem_append, List.mem_cons]
  have h : j ∈ cs ↔ j ∈ cs.takeWhile (fun c => !ltS (nm i) (nm c)) ∨ j ∈ cs.dropWhile (fun c => !ltS (nm i) (nm c)) := by
    rw [← List.mem_append, List.takeWhile_append_dropWhile]
  rw [h]
  constructor
  · rintro (q | q | q)
    · exact .inr (.inl q)
    · exact .inl q
    · exact .inr (.inr q)
  · rintro (q | q | q)
    · exact .inr (.inl q)
    · exact .inl q
    · exact .inr (.inr q)
theorem mem_chl {q : Nat → Nat} {nm : Nat → St} {x j : Nat} : ∀ m, j ∈ chl q nm x m ↔ j < m ∧ j ≠ 0 ∧ q j = x := by
  intro m
  induction m with
  | zero => simp [chl]
  | succ m ih =>
    rw [chl]
    split
    · rename_i h
      rw [mem_insC, ih]
      constructor
      · rintro (rfl | ⟨h1, h2⟩)
        · exact ⟨by omega, h⟩
        · exact ⟨by omega, h2⟩
      · rintro ⟨h1, h2⟩
        by_cases e : j = m
        · exact .inl e
        · exact .inr ⟨by omega, h2⟩
    · rename_i h
      rw [ih]
      constructor
      · rintro ⟨h1, h2⟩; exact ⟨by omega, h2⟩
      · rintro ⟨h1, h2⟩
        by_cases e : j = m
        · subst e; exact absurd h2 h
        · exact ⟨by omega, h2⟩
theorem tw_all {p : Nat → Bool} : ∀ l : List Nat, (∀ c ∈ l, p c = true) → l.takeWhile p = l ∧ l.dropWhile p = []
  | [], _ => ⟨rfl, rfl⟩
  | a :: l, h => by
    have ih := tw_all (p := p) l (fun c hc => h c (List.mem_cons_of_mem _ hc))
    have ha := h a (by simp)
    rw [List.takeWhile_cons, List.dropWhile_cons, if_pos ha, if_pos ha, ih.1, ih.2]
    exact ⟨rfl, rfl⟩
theorem insC_end {nm : Nat → St} {cs : List Nat} {i : Nat} (h : ∀ c ∈ cs, ltS (nm i) (nm c) = false) : insC nm cs i = cs ++ [i] := by
  unfold insC
  have hh := tw_all (p := fun c => !ltS (nm i) (nm c)) cs (fun c hc => by rw [h c hc]; rfl)
  rw [hh.1, hh.2]
theorem chl_asc {n : Nat} {q : Nat → Nat} {nm : Nat → St} (hs : ∀ i j, 0 < i → i < j → j < n → q i = q j → ltS (nm i) (nm j) = true) (x : Nat) : ∀ m, m ≤ n → (chl q nm x m).Pairwise (· < ·) := by
  intro m
  induction m with
  | zero => intro _; simp [chl]
  | succ m ih =>
    intro hm
    rw [chl]
    split
    · rename_i h
      have hlt : ∀ c ∈ chl q nm x m, c < m ∧ c ≠ 0 ∧ q c = x := fun c hc => (mem_chl m).1 hc
      rw [insC_end (fun c hc => by
        obtain ⟨h1, h2, h3⟩ := hlt c hc
        exact vlt_not (hs c m (by omega) h1 (by omega) (by rw [h3, h.2])))]
      rw [List.pairwise_append]
      exact ⟨ih (by omega), by simp, fun a ha b hb => by rw [List.mem_singleton.1 hb]; exact (hlt a ha).1⟩
    · exact ih (by omega)
structure EndOf (n : Nat) (q : Nat → Nat) (x e : Nat) : Prop where
  lo : x < e
  hi : e ≤ n
  inn : ∀ j, x ≤ j → j < e → Anc q x j
  out : e < n → ¬ Anc q x e
theorem end_ex (n : Nat) (q : Nat → Nat) (x : Nat) (hx : x < n) : ∃ e, EndOf n q x e := by
  obtain ⟨e, h1, h2, h3, h4⟩ := first_from (fun j => ¬ Anc q x j) n _ (x + 1) rfl (by omega)
  refine ⟨e, by omega, h2, fun j j1 j2 => ?_, h4⟩
  by_cases h : j = x
  · subst h; exact .refl
  · exact Classical.byContradiction (h3 j (by omega) j2)
theorem anc_q {q : Nat → Nat} {x j : Nat} (h : Anc q x j) (hne : j ≠ x) : Anc q x (q j) ∧ 0 < j := by
  cases h with
  | refl => exact absurd rfl hne
  | up h0 h1 => exact ⟨h1, h0⟩
def chFrom (n : Nat) (q : Nat → Nat) (x j : Nat) : List Nat := (List.range' j (n - j)).filter (fun i => decide (q i = x))
theorem mem_chFrom {n : Nat} {q : Nat → Nat} {x j i : Nat} : i ∈ chFrom n q x j ↔ j ≤ i ∧ i < n ∧ q i = x := by
  unfold chFrom
  rw [List.mem_filter, List.mem_range'_1, decide_eq_true_eq]
  constructor
  · rintro ⟨⟨h1, h2⟩, h3⟩; exact ⟨h1, by omega, h3⟩
  · rintro ⟨h1, h2, h3⟩; exact ⟨⟨h1, by omega⟩, h3⟩
theorem walk_range {n : Nat} {q : Nat → Nat} {nm : Nat → St} (hs : Shp n q nm) : ∀ f x e, n ≤ f + x → x < n → EndOf n q x e → walkF n q nm f x = List.range' x (e - x) := by
  intro f
  induction f with
  | zero => intro x e hf hx _; omega
  | succ f ih =>
    intro x e hf hx he
    have hC : chl q nm x n = chFrom n q x (x + 1) := by
      refine asc_ext (chl_asc hs.sib x n (Nat.le_refl _)) (asc_filter _ (asc_range _ _)) (fun i => ?_)
      rw [mem_chl, mem_chFrom]
      constructor
      · rintro ⟨h1, h2, h3⟩
        have := hs.par i (by omega) h1
        exact ⟨by omega, h1, h3⟩
      · rintro ⟨h1, h2, h3⟩; exact ⟨h2, by omega, h3⟩
    have key : ∀ d j, e - j = d → x < j → j ≤ e → (j = e ∨ q j = x) → (chFrom n q x j).flatMap (walkF n q nm f) = List.range' j (e - j) := by
      intro d
      induction d using Nat.strongRecOn with
      | ind d ihd =>
        intro j hd hxj hje hor
        by_cases hj : j = e
        · subst hj
          have : chFrom n q x j = [] := by
            rw [List.eq_nil_iff_forall_not_mem]
            intro i hi
            rw [mem_chFrom] at hi
            have h1 := he.out (by omega)
            exact sub_end hs hxj h1 i hi.1 hi.2.1 (.up (by omega) (by rw [hi.2.2]; exact .refl))
          rw [this, Nat.sub_self]; rfl
        · have hjn : j < n := by have := he.hi; omega
          have hq : q j = x := hor.resolve_left hj
          obtain ⟨j2, hj2⟩ := end_ex n q j hjn
          have l2 := hj2.lo
          have hxA : Anc q x j := .up (by omega) (by rw [hq]; exact .refl)
          have hj2e : j2 ≤ e := by
            refine Classical.byContradiction fun h => ?_
            have h1 : e < n := by have := hj2.hi; omega
            exact he.out h1 (anc_trans hxA (hj2.inn e (by omega) (by omega)))
          have hor2 : j2 = e ∨ q j2 = x := by
            by_cases h : j2 = e
            · exact .inl h
            · refine .inr ?_
              have h1 : j2 < n := by have := he.hi; omega
              have hx2 := anc_q (he.inn j2 (by omega) (by omega)) (by omega)
              have h2 := hs.ord j2 (by omega) h1
              have h3 := hj2.inn (j2 - 1) (by omega) (by omega)
              rcases anc_comp h2 h3 with h4 | h4
              · by_cases h5 : j = q j2
                · exact absurd (Anc.up (by omega) (by rw [← h5]; exact .refl)) (hj2.out h1)
                · have h6 := (anc_q h4 h5).1
                  rw [hq] at h6
                  have := hs.par j2 (by omega) h1
                  exact anc_anti hs.par h6 hx2.1 (by omega)
              · exact absurd (Anc.up (by omega) h4) (hj2.out h1)
          have hcons : chFrom n q x j = j :: chFrom n q x j2 := by
            refine asc_ext (asc_filter _ (asc_range _ _)) ?_ (fun i => ?_)
            · rw [List.pairwise_cons]
              exact ⟨fun i hi => by rw [mem_chFrom] at hi; omega, asc_filter _ (asc_range _ _)⟩
            · rw [List.mem_cons, mem_chFrom, mem_chFrom]
              constructor
              · rintro ⟨h1, h2, h3⟩
                by_cases h4 : i = j
                · exact .inl h4
                · refine .inr ⟨Classical.byContradiction fun h => ?_, h2, h3⟩
                  have h5 := (anc_q (hj2.inn i (by omega) (by omega)) h4).1
                  rw [h3] at h5
                  have := anc_le hs.par h5 hx
                  omega
              · rintro (rfl | ⟨h1, h2, h3⟩)
                · exact ⟨Nat.le_refl _, hjn, hq⟩
                · exact ⟨by omega, h2, h3⟩
          rw [hcons, List.flatMap_cons, ih j j2 (by omega) hjn hj2, ihd (e - j2) (by omega) j2 rfl (by omega) hj2e hor2]
          have h9 := @List.range'_append_1 j (j2 - j) (e - j2)
          rw [show j + (j2 - j) = j2 by omega] at h9
          rw [h9]; congr 1; omega
    rw [walkF, hC]
    have hstart : x + 1 = e ∨ q (x + 1) = x := by
      by_cases h : x + 1 = e
      · exact .inl h
      · refine .inr ?_
        have h1 : x + 1 < e := by have := he.lo; omega
        have h2 : x + 1 < n := by have := he.hi; omega
        have h3 := (anc_q (he.inn (x + 1) (by omega) h1) (by omega)).1
        have h4 := hs.par (x + 1) (by omega) h2
        have h5 := anc_le hs.par h3 (by omega)
        omega
    have lo := he.lo
    rw [key _ (x + 1) rfl (by omega) (by omega) hstart]
    rw [show e - x = (e - (x + 1)) + 1 by omega, List.range'_succ]
theorem anc_root {n : Nat} {q : Nat → Nat} (hp : ∀ i, 0 < i → i < n → q i < i) : ∀ j, j < n → Anc q 0 j := by
  intro j
  induction j using Nat.strongRecOn with
  | ind j ih =>
    intro hj
    by_cases h : j = 0
    · subst h; exact .refl
    · have := hp j (by omega) hj
      exact .up (by omega) (ih (q j) this (by omega))
theorem walk_all {n : Nat} {q : Nat → Nat} {nm : Nat → St} (hs : Shp n q nm) (h0 : 0 < n) {f : Nat} (hf : n ≤ f) : walkF n q nm f 0 = List.range n := by
  rw [walk_range hs f 0 n (by omega) h0 ⟨h0, Nat.le_refl _, fun j _ hj => anc_root hs.par j hj, fun h => by omega⟩, List.range_eq_range', Nat.sub_zero]
/-! The walk with a new node behind all others. -/
def qx (n k : Nat) (q : Nat → Nat) (i : Nat) : Nat := if i = n then k else q i
def nx (n : Nat) (x : St) (nm : Nat → St) (i : Nat) : St := if i = n then x else nm i
def pim (n p i : Nat) : Nat := if i = n then p else sh p i
theorem chl_congr {q q' : Nat → Nat} {nm nm' : Nat → St} {x : Nat} : ∀ m, (∀ i, i < m → q i = q' i) → (∀ i, i < m → nm i = nm' i) → chl q nm x m = chl q' nm' x m := by
  intro m
  induction m with
  | zero => intro _ _; rfl
  | succ m ih =>
    intro hq hn
    rw [chl, chl, ih (fun i hi => hq i (by omega)) (fun i hi => hn i (by omega)), hq m (by omega)]
    split
    · unfold insC
      have hmem : ∀ c ∈ chl q' nm' x m, nm c = nm' c := fun c hc => hn c (by have := ((mem_chl m).1 hc).1; omega)
      have e : ∀ cs : List Nat, (∀ c ∈ cs, nm c = nm' c) → cs.takeWhile (fun c => !ltS (nm m) (nm c)) = cs.takeWhile (fun c => !ltS (nm' m) (nm' c)) ∧ cs.dropWhile (fun c => !ltS (nm m) (nm c)) = cs.dropWhile (fun c => !ltS (nm' m) (nm' c)) := by
        intro cs
        induction cs with
        | nil => intro _; exact ⟨rfl, rfl⟩
        | cons c cs ih2 =>
          intro h
          have h1 := ih2 (fun d hd => h d (List.mem_cons_of_mem _ hd))
          rw [List.takeWhile_cons, List.takeWhile_cons, List.dropWhile_cons, List.dropWhile_cons, h c (by simp), hn m (by omega)]
          have h2 := h1
          rw [hn m (by omega)] at h2
          split
          · exact ⟨by rw [h2.1], h2.2⟩
          · exact ⟨rfl, rfl⟩
      rw [(e _ hmem).1, (e _ hmem).2]
    · rfl
theorem chl_new {n : Nat} {q : Nat → Nat} {nm : Nat → St} {k : Nat} {x : St} {p : Nat} (hs : Shp n q nm) (hn : 0 < n) (hk : k < n) (hi : InsAt n q nm k x p) (hx : ∀ i, 0 < i → i < n → q i = k → nm i ≠ x) (y : Nat) (hy : y ≤ n) :
    (chl (qx n k q) (nx n x nm) y (n + 1)).map (pim n p) = chl (qn p k q) (nn p x nm) (pim n p y) (n + 1) := by
  have lo := hi.lo
  have hi' := hi.hi
  have h0p : 0 < p := by omega
  have hold : ∀ z, chl (qx n k q) (nx n x nm) z n = chl q nm z n := fun z => chl_congr n (fun i h => by unfold qx; rw [if_neg (by omega)]) (fun i h => by unfold nx; rw [if_neg (by omega)])
  have hsib : ∀ i j, 0 < i → i < j → j < n + 1 → qn p k q i = qn p k q j → ltS (nn p x nm i) (nn p x nm j) = true := fun i j h0 hij hjn he => by
    rcases sh_cases p i with e | ⟨a, e⟩
    · subst e
      rcases sh_cases i j with e | ⟨b, e⟩
      · omega
      · subst e
        rw [qn_new] at he
        have hb : b < n := by unfold sh at hjn; split at hjn <;> omega
        have hib : i ≤ b := by unfold sh at hij; split at hij <;> omega
        rw [qn_sh hs.par i k (by omega) hb] at he
        have hq : q b = k := by
          have e3 : sh i (q b) = sh i k := by rw [sh_lt lo]; exact he.symm
          exact sh_inj e3
        rw [nn_new, nn_sh]
        exact ins_high hs hi hib hb hq
    · subst e
      have ha0 : 0 < a := by
        by_cases e : a = 0
        · subst e; rw [sh_lt h0p] at h0; omega
        · omega
      rcases sh_cases p j with e | ⟨b, e⟩
      · subst e
        have haj : a < j := by unfold sh at hij; split at hij <;> omega
        rw [qn_new, qn_sh hs.par j k ha0 (by omega)] at he
        have hq : q a = k := by
          have e3 : sh j (q a) = sh j k := by rw [sh_lt lo]; exact he
          exact sh_inj e3
        rw [nn_new, nn_sh]
        exact ins_low hs hi hx ha0 haj hq
      · subst e
        have hab : a < b := by
          rcases Nat.lt_trichotomy a b with h | h | h
          · exact h
          · subst h; omega
          · have := sh_mono (p := p) h; omega
        have hb : b < n := by unfold sh at hjn; split at hjn <;> omega
        rw [qn_sh hs.par p k ha0 (by omega), qn_sh hs.par p k (by omega) hb] at he
        rw [nn_sh, nn_sh]
        exact hs.sib a b ha0 hab hb (sh_inj he)
  have hrhs := chl_asc hsib (pim n p y) (n + 1) (Nat.le_refl _)
  have hpo : ∀ i, i < n → pim n p i = sh p i := fun i h => by unfold pim; rw [if_neg (by omega)]
  have hpn : pim n p n = p := by unfold pim; rw [if_pos rfl]
  have hmem : ∀ i, i ∈ (chl (qx n k q) (nx n x nm) y (n + 1)).map (pim n p) ↔ i ∈ chl (qn p k q) (nn p x nm) (pim n p y) (n + 1) := by
    intro i
    rw [List.mem_map, mem_chl]
    constructor
    · rintro ⟨j, hj, rfl⟩
      rw [mem_chl] at hj
      obtain ⟨h1, h2, h3⟩ := hj
      by_cases e : j = n
      · subst e
        rw [hpn]
        refine ⟨by omega, by omega, ?_⟩
        have e3 : y = k := by unfold qx at h3; rw [if_pos rfl] at h3; exact h3.symm
        subst e3
        rw [qn_new, hpo y hk, sh_lt lo]
      · have hjn : j < n := by omega
        rw [hpo j hjn]
        have h4 := sh_le p j
        refine ⟨by omega, by omega, ?_⟩
        unfold qx at h3
        rw [if_neg e] at h3
        subst h3
        have := hs.par j (by omega) hjn
        rw [qn_sh hs.par p k (by omega) hjn, hpo (q j) (by omega)]
    · rintro ⟨h1, h2, h3⟩
      rcases sh_cases p i with e | ⟨j, e⟩
      · subst e
        rw [qn_new] at h3
        refine ⟨n, ?_, hpn⟩
        rw [mem_chl]
        refine ⟨by omega, by omega, ?_⟩
        unfold qx
        rw [if_pos rfl]
        by_cases e : y = n
        · subst e; rw [hpn] at h3; omega
        · rw [hpo y (by omega)] at h3
          have e3 : sh i k = sh i y := by rw [sh_lt lo]; exact h3
          exact sh_inj e3
      · subst e
        have hj : j < n := by unfold sh at h1; split at h1 <;> omega
        have hj0 : 0 < j := by
          by_cases e : j = 0
          · subst e; rw [sh_lt h0p] at h2; omega
          · omega
        refine ⟨j, ?_, hpo j hj⟩
        rw [mem_chl]
        refine ⟨by omega, by omega, ?_⟩
        unfold qx
        rw [if_neg (by omega)]
        rw [qn_sh hs.par p k hj0 hj] at h3
        by_cases e : y = n
        · subst e; rw [hpn] at h3; exact absurd h3 (sh_ne _ _)
        · rw [hpo y (by omega)] at h3
          exact sh_inj h3
  refine asc_ext ?_ hrhs hmem
  -- the left list ascends
  rw [chl]
  have hascn := chl_asc hs.sib y n (Nat.le_refl _)
  split
  · rename_i h
    have e3 : y = k := by have := h.2; unfold qx at this; rw [if_pos rfl] at this; exact this.symm
    subst e3
    rw [hold]
    -- those ahead of p, the new one, those behind
    have hins : insC (nx n x nm) (chl q nm y n) n = (chl q nm y n).filter (fun c => decide (c < p)) ++ n :: (chl q nm y n).filter (fun c => decide (p ≤ c)) := by
      have e : ∀ cs : List Nat, cs.Pairwise (· < ·) → (∀ c ∈ cs, c < n ∧ c ≠ 0 ∧ q c = y) → cs.takeWhile (fun c => !ltS (nx n x nm n) (nx n x nm c)) = cs.filter (fun c => decide (c < p)) ∧ cs.dropWhile (fun c => !ltS (nx n x nm n) (nx n x nm c)) = cs.filter (fun c => decide (p ≤ c)) := by
        intro cs
        induction cs with
        | nil => intro _ _; exact ⟨rfl, rfl⟩
        | cons c cs ih =>
          intro hp hm
          rw [List.pairwise_cons] at hp
          obtain ⟨h1, h2, h3⟩ := hm c (by simp)
          have e1 : nx n x nm n = x := if_pos rfl
          have e2 : nx n x nm c = nm c := if_neg (by omega)
          by_cases hc : c < p
          · have h4 := ins_low hs hi hx (by omega) hc h3
            have h5 := vlt_not h4
            have ih2 := ih hp.2 (fun d hd => hm d (List.mem_cons_of_mem _ hd))
            rw [List.takeWhile_cons, List.dropWhile_cons, e1, e2, h5]
            rw [e1] at ih2
            simp only [Bool.not_false, if_true]
            rw [List.filter_cons, List.filter_cons, if_pos (by simpa using hc), if_neg (by simpa using hc), ih2.1, ih2.2]
            exact ⟨rfl, rfl⟩
          · have h4 := ins_high hs hi (by omega) h1 h3
            rw [List.takeWhile_cons, List.dropWhile_cons, e1, e2, h4]
            have hall : ∀ d ∈ c :: cs, p ≤ d := fun d hd => by
              rcases List.mem_cons.1 hd with r | r
              · omega
              · have := hp.1 d r; omega
            refine ⟨?_, ?_⟩
            · symm
              rw [if_neg (by simp), List.filter_eq_nil_iff]
              intro d hd
              have := hall d hd
              simp; omega
            · symm
              rw [if_neg (by simp), List.filter_eq_self]
              intro d hd
              simpa using hall d hd
      have := e _ hascn (fun c hc => (mem_chl n).1 hc)
      unfold insC
      rw [this.1, this.2]
    rw [hins, List.map_append, List.map_cons, hpn]
    have hm1 : ((chl q nm y n).filter (fun c => decide (c < p))).map (pim n p) = (chl q nm y n).filter (fun c => decide (c < p)) := by
      conv => rhs; rw [← List.map_id ((chl q nm y n).filter (fun c => decide (c < p)))]
      refine List.map_congr_left (fun c hc => ?_)
      rw [List.mem_filter, mem_chl, decide_eq_true_eq] at hc
      rw [hpo c hc.1.1, sh_lt hc.2]; rfl
    rw [hm1, List.pairwise_append]
    refine ⟨asc_filter _ hascn, ?_, fun a ha b hb => ?_⟩
    · rw [List.pairwise_cons]
      refine ⟨fun b hb => ?_, ?_⟩
      · obtain ⟨c, hc, rfl⟩ := List.mem_map.1 hb
        rw [List.mem_filter, mem_chl, decide_eq_true_eq] at hc
        rw [hpo c hc.1.1, sh_ge hc.2]; omega
      · rw [List.pairwise_map]
        refine List.Pairwise.imp_of_mem (fun {a b} ha hb hab => ?_) (asc_filter _ hascn)
        rw [List.mem_filter, mem_chl] at ha hb
        rw [hpo a ha.1.1, hpo b hb.1.1]
        exact sh_mono hab
    · rw [List.mem_filter, decide_eq_true_eq] at ha
      rcases List.mem_cons.1 hb with r | r
      · omega
      · obtain ⟨c, hc, rfl⟩ := List.mem_map.1 r
        rw [List.mem_filter, mem_chl, decide_eq_true_eq] at hc
        rw [hpo c hc.1.1, sh_ge hc.2]; omega
  · rw [hold, List.pairwise_map]
    refine List.Pairwise.imp_of_mem (fun {a b} ha hb hab => ?_) hascn
    rw [mem_chl] at ha hb
    rw [hpo a ha.1, hpo b hb.1]
    exact sh_mono hab
theorem walk_new {n : Nat} {q : Nat → Nat} {nm : Nat → St} {k : Nat} {x : St} {p : Nat} (hs : Shp n q nm) (hn : 0 < n) (hk : k < n) (hi : InsAt n q nm k x p) (hx : ∀ i, 0 < i → i < n → q i = k → nm i ≠ x) : ∀ f y, y ≤ n →
    (walkF (n + 1) (qx n k q) (nx n x nm) f y).map (pim n p) = walkF (n + 1) (qn p k q) (nn p x nm) f (pim n p y) := by
  intro f
  induction f with
  | zero => intro y _; rfl
  | succ f ih =>
    intro y hy
    rw [walkF, walkF, List.map_cons, ← chl_new hs hn hk hi hx y hy]
    congr 1
    rw [List.map_flatMap, List.flatMap_map]
    have : ∀ cs : List Nat, (∀ c ∈ cs, c ≤ n) → (cs.flatMap fun a => (walkF (n + 1) (qx n k q) (nx n x nm) f a).map (pim n p)) = cs.flatMap fun a => walkF (n + 1) (qn p k q) (nn p x nm) f (pim n p a) := by
      intro cs
      induction cs with
      | nil => intro _; rfl
      | cons c cs ih2 =>
        intro h
        rw [List.flatMap_cons, List.flatMap_cons, ih c (h c (by simp)), ih2 (fun d hd => h d (List.mem_cons_of_mem _ hd))]
    exact this _ (fun c hc => by have := ((mem_chl _).1 hc).1; omega)
theorem pim_inj {n p i j : Nat} (h : pim n p i = pim n p j) : i = j := by
  unfold pim at h
  split at h <;> split at h
  · omega
  · exact absurd h.symm (sh_ne _ _)
  · exact absurd h (sh_ne _ _)
  · exact sh_inj h
theorem walk_ins {n : Nat} {q : Nat → Nat} {nm : Nat → St} {k : Nat} {x : St} {p : Nat} (hs : Shp n q nm) (hn : 0 < n) (hk : k < n) (hi : InsAt n q nm k x p) (hx : ∀ i, 0 < i → i < n → q i = k → nm i ≠ x) (hd : ∃ d, d ≤ 7 ∧ Dep q k d) {f : Nat} (hf : n + 1 ≤ f) :
    walkF (n + 1) (qx n k q) (nx n x nm) f 0 = List.range p ++ n :: List.range' p (n - p) := by
  have h1 := walk_new hs hn hk hi hx f 0 (Nat.zero_le _)
  have lo := hi.lo
  have hi' := hi.hi
  have hp0 : pim n p 0 = 0 := by unfold pim; rw [if_neg (by omega), sh_lt (by omega)]
  rw [hp0, walk_all (shp_ins hs hk hi hx hd) (by omega) hf] at h1
  have h2 : (List.range p ++ n :: List.range' p (n - p)).map (pim n p) = List.range (n + 1) := by
    refine asc_ext ?_ (by rw [List.range_eq_range']; exact asc_range _ _) (fun i => ?_)
    · rw [List.map_append, List.map_cons, show pim n p n = p from if_pos rfl]
      have e1 : (List.range p).map (pim n p) = List.range p := by
        conv => rhs; rw [← List.map_id (List.range p)]
        refine List.map_congr_left (fun c hc => ?_)
        rw [List.mem_range] at hc
        unfold pim
        rw [if_neg (by omega), sh_lt hc]; rfl
      have e2 : (List.range' p (n - p)).map (pim n p) = List.range' (p + 1) (n - p) := by
        have : (List.range' p (n - p)).map (pim n p) = (List.range' p (n - p)).map (fun i => 1 + i) := List.map_congr_left (fun c hc => by
          rw [List.mem_range'_1] at hc
          unfold pim
          rw [if_neg (by omega), sh_ge hc.1]; omega)
        rw [this, List.map_add_range', Nat.add_comm]
      rw [e1, e2, List.range_eq_range', List.pairwise_append]
      refine ⟨asc_range _ _, ?_, fun a ha b hb => ?_⟩
      · rw [List.pairwise_cons]
        exact ⟨fun b hb => by rw [List.mem_range'_1] at hb; omega, asc_range _ _⟩
      · rw [List.mem_range'_1] at ha
        rcases List.mem_cons.1 hb with r | r
        · omega
        · rw [List.mem_range'_1] at r; omega
    · rw [List.mem_map, List.mem_range]
      constructor
      · rintro ⟨j, hj, rfl⟩
        rw [List.mem_append, List.mem_cons, List.mem_range, List.mem_range'_1] at hj
        unfold pim
        split
        · omega
        · have := (sh_le p j).2; omega
      · intro h
        rcases sh_cases p i with e | ⟨j, e⟩
        · subst e; exact ⟨n, by simp, if_pos rfl⟩
        · subst e
          have hj : j < n := by unfold sh at h; split at h <;> omega
          refine ⟨j, ?_, by unfold pim; rw [if_neg (by omega)]⟩
          rw [List.mem_append, List.mem_cons, List.mem_range, List.mem_range'_1]
          omega
  have h3 := h1.trans h2.symm
  exact List.map_inj_right (fun a b h => pim_inj h) |>.1 h3
def namesV : List St := [[35, 99, 101, 108, 108, 115], [99, 108, 111, 99, 107, 115], [99, 111, 109, 112, 97, 116, 105, 98, 108, 101], [101, 120, 116, 114, 97], [108, 97, 98, 101, 108], [112], [112, 104, 97, 110, 100, 108, 101], [113], [114, 97, 110, 103, 101, 115], [114, 101, 103], [115, 116, 97, 116, 117, 115], [118, 97, 108, 117, 101]]
def nodesV : List St := [[97], [98], [99], [99, 112, 117], [99, 108, 107], [98, 117, 115, 64, 49, 48], [100, 101, 118, 64, 50], [120, 95, 49], [122]]
theorem namesV_ok : namesV.all (fun s => propOk s && decide (s.length ≤ 31)) = true := by kernel_rfl
theorem nodesV_ok : nodesV.all (fun s => nameOk s && decide (s.length ≤ 31)) = true := by kernel_rfl
theorem namesV_asc : namesV.Pairwise (fun a b => ltS a b = true) := of_decide_eq_true (by kernel_rfl)
def nd (ts : Tr) (i : Nat) : Nod := ts.getD i default
def pq (ts : Tr) (i : Nat) : Nat := (nd ts i).parent.toNat
def nmT (ts : Tr) (i : Nat) : St := (nd ts i).name
theorem nd_get {ts : Tr} {i : Nat} (h : i < ts.length) : nd ts i = ts[i] := by unfold nd; rw [List.getD_eq_getElem?_getD, List.getElem?_eq_getElem h]; rfl
structure PV (ps : List Prp) : Prop where
  asc : ps.Pairwise (fun a b => ltS a.name b.name = true)
  mem : ∀ p ∈ ps, p.name ∈ namesV ∧ p.val.length ≤ 256
theorem subS_asc : ∀ (cs : List St), cs.Pairwise (fun a b => ltS a b = true) → ∀ l : List St, l.Pairwise (fun a b => ltS a b = true) → (∀ s ∈ l, s ∈ cs) → l.Sublist cs := by
  intro cs
  induction cs with
  | nil =>
    intro _ l _ h
    cases l with
    | nil => exact .slnil
    | cons x l => exact absurd (h x (by simp)) (by simp)
  | cons c cs ih =>
    intro hc l hl h
    rw [List.pairwise_cons] at hc
    cases l with
    | nil => exact List.nil_sublist _
    | cons x l =>
      rw [List.pairwise_cons] at hl
      rcases List.mem_cons.1 (h x (by simp)) with e | q
      · subst e
        refine .cons_cons _ (ih hc.2 l hl.2 (fun s hs => ?_))
        rcases List.mem_cons.1 (h s (List.mem_cons_of_mem _ hs)) with r | r
        · exact absurd r.symm (vlt_ne (hl.1 s hs))
        · exact r
      · refine .cons _ (ih hc.2 (x :: l) (List.pairwise_cons.2 hl) (fun s hs => ?_))
        rcases List.mem_cons.1 (h s hs) with r | r
        · subst r
          rcases List.mem_cons.1 hs with e | hs
          · subst e; exact absurd rfl (vlt_ne (hc.1 _ q))
          · have h1 := vlt_trans (hc.1 x q) (hl.1 _ hs)
            rw [vlt_irr] at h1; cases h1
        · exact r
theorem PV.len {ps : List Prp} (h : PV ps) : ps.length ≤ 12 := by
  have h1 := subS_asc _ namesV_asc (ps.map Prp.name) (by rw [List.pairwise_map]; exact h.asc) (fun s hs => by
    obtain ⟨p, hp, rfl⟩ := List.mem_map.1 hs
    exact (h.mem p hp).1)
  have := h1.length_le
  rw [List.length_map] at this
  exact this
theorem PV.prop {ps : List Prp} (h : PV ps) : ∀ p ∈ ps, propOk p.name = true ∧ p.name.length ≤ 31 := fun p hp => by
  have := List.all_eq_true.1 namesV_ok _ (h.mem p hp).1
  simpa using this
structure VT (ts : Tr) : Prop where
  pos : 0 < ts.length
  few : ts.length ≤ 120
  root : (nd ts 0).parent = -1 ∧ (nd ts 0).name = []
  int : ∀ i, 0 < i → i < ts.length → 0 ≤ (nd ts i).parent
  shp : Shp ts.length (pq ts) (nmT ts)
  nam : ∀ i, 0 < i → i < ts.length → nmT ts i ∈ nodesV
  prp : ∀ i, i < ts.length → PV (nd ts i).props
theorem VT.par {ts : Tr} (h : VT ts) {i : Nat} (h0 : 0 < i) (hi : i < ts.length) : (nd ts i).parent = (pq ts i : Int) := by
  have := h.int i h0 hi
  unfold pq; omega
theorem VT.name {ts : Tr} (h : VT ts) {i : Nat} (h0 : 0 < i) (hi : i < ts.length) : nameOk (nmT ts i) = true ∧ (nmT ts i).length ≤ 31 := by
  have := List.all_eq_true.1 nodesV_ok _ (h.nam i h0 hi)
  simpa using this
theorem ascP_of {ps : List Prp} (h : ps.Pairwise (fun a b => ltS a.name b.name = true)) : ascP ps = true := by
  unfold ascP
  rw [List.all_eq_true]
  intro k hk
  rw [List.mem_range] at hk
  rw [List.getD_eq_getElem?_getD, List.getD_eq_getElem?_getD, List.getElem?_eq_getElem (by omega), List.getElem?_eq_getElem (by omega)]
  rw [List.pairwise_iff_getElem] at h
  exact h k (k + 1) (by omega) (by omega) (by omega)
theorem VT.asc {ts : Tr} (h : VT ts) {i : Nat} (hi : i < ts.length) : ascP (nd ts i).props = true := ascP_of (h.prp i hi).asc
theorem climb_anc {ts : Tr} (h : VT ts) {p u : Nat} (ha : Anc (pq ts) p u) : ∀ f, u < f → u < ts.length → climb ts p f (u : Int) = p := by
  induction ha with
  | refl =>
    intro f hf hu
    obtain ⟨g, rfl⟩ : ∃ g, f = g + 1 := ⟨f - 1, by omega⟩
    rw [climb, if_neg (by omega), if_pos rfl]
  | @up u h0 _ ih =>
    intro f hf hu
    obtain ⟨g, rfl⟩ : ∃ g, f = g + 1 := ⟨f - 1, by omega⟩
    have hp := h.shp.par u h0 hu
    rw [climb, if_neg (by omega)]
    split
    · rename_i e; exact e
    · have e : par ts (u : Int) = (pq ts u : Int) := by
        unfold Go.Proofs.YtgembejpiecfcaaGreatDoor.par
        rw [Int.toNat_natCast]
        exact h.par h0 hu
      rw [e]
      exact ih g (by omega) (by omega)
theorem walk_V {ts : Tr} (h : VT ts) : ∀ i, i ≤ ts.length → ∃ last, walkN ts i = some last ∧ last.length = ts.length ∧ ∀ u, u < ts.length → last.getD u [] = [] ∨ ∃ c, 0 < c ∧ c < i ∧ pq ts c = u ∧ last.getD u [] = nmT ts c := by
  intro i
  induction i with
  | zero =>
    intro _
    refine ⟨_, rfl, by simp, fun u hu => .inl ?_⟩
    rw [List.getD_eq_getElem?_getD, List.getElem?_replicate]
    split <;> rfl
  | succ i ih =>
    intro hi
    obtain ⟨last, hw, hl, hu⟩ := ih (by omega)
    rw [walkN, hw]
    have hn : ts.getD i default = nd ts i := rfl
    simp only [hn, h.asc (show i < ts.length by omega), if_true]
    by_cases h0 : i = 0
    · subst h0
      rw [if_pos rfl]
      refine ⟨last, rfl, hl, fun u h1 => ?_⟩
      rcases hu u h1 with q | ⟨c, q1, q2, _⟩
      · exact .inl q
      · omega
    · rw [if_neg h0]
      have hpar := h.par (show 0 < i by omega) (show i < ts.length by omega)
      have hc := climb_anc h (h.shp.ord i (by omega) (by omega)) i (by omega) (by omega)
      have hpi := h.shp.par i (by omega) (by omega)
      rw [hpar, show ((i : Int) - 1) = ((i - 1 : Nat) : Int) by omega, hc, if_neg (by omega), Int.toNat_natCast]
      have hlow : ltS (nd ts i).name (last.getD (pq ts i) []) = false := by
        rcases hu (pq ts i) (by omega) with q | ⟨c, q1, q2, q3, q4⟩
        · rw [q]
          unfold ltS
          cases (nd ts i).name <;> rfl
        · rw [q4]
          exact vlt_not (h.shp.sib c i q1 q2 (by omega) q3)
      rw [hlow, if_neg (by simp)]
      refine ⟨_, rfl, by rw [List.length_set, hl], fun u h1 => ?_⟩
      by_cases e : u = pq ts i
      · subst e
        refine .inr ⟨i, by omega, by omega, rfl, ?_⟩
        rw [List.getD_eq_getElem?_getD, List.getElem?_set_self (by rw [hl]; omega)]
        rfl
      · rw [List.getD_eq_getElem?_getD, List.getElem?_set_ne (by omega), ← List.getD_eq_getElem?_getD]
        rcases hu u h1 with q | ⟨c, q1, q2, q3⟩
        · exact .inl q
        · exact .inr ⟨c, q1, by omega, q3⟩
theorem dep_V {ts : Tr} (h : VT ts) {u d : Nat} (hd : Dep (pq ts) u d) : ∀ f, u ≤ f → u < ts.length → depN ts f (u : Int) = d := by
  induction hd with
  | zero => intro f _ _; cases f <;> rfl
  | @succ u d h0 _ ih =>
    intro f hf hu
    obtain ⟨g, rfl⟩ : ∃ g, f = g + 1 := ⟨f - 1, by omega⟩
    have hp := h.shp.par u h0 hu
    have e : par ts (u : Int) = (pq ts u : Int) := by
      unfold Go.Proofs.YtgembejpiecfcaaGreatDoor.par
      rw [Int.toNat_natCast]
      exact h.par h0 hu
    rw [depN, if_pos (by omega), e, ih g (by omega) (by omega)]
theorem chk_V {ts : Tr} (h : VT ts) : chkT ts = 0 := by
  have h0 := h.pos
  have h1 := h.few
  unfold chkT
  rw [if_neg (by omega), if_neg, if_neg, if_neg, if_neg, if_neg]
  · rw [Bool.not_eq_true, List.any_eq_false]
    intro i hi
    rw [List.mem_range] at hi
    obtain ⟨d, hd1, hd2⟩ := h.shp.dep i hi
    rw [dep_V h hd2 i (Nat.le_refl _) hi]
    simp; omega
  · rw [Bool.not_eq_true]
    unfold dupT
    rw [List.any_eq_false]
    intro i hi
    rw [List.mem_range] at hi
    simp only [Bool.and_eq_true, decide_eq_true_eq, not_and]
    intro hpos hc
    rw [List.contains_iff_mem] at hc
    obtain ⟨n, hn, he⟩ := List.mem_map.1 hc
    obtain ⟨j, hj, rfl⟩ := List.getElem_of_mem hn
    rw [List.getElem_take] at he
    rw [List.length_take] at hj
    have hji : j < i := by omega
    have e1 : ts[j]'(by omega) = nd ts j := (nd_get (by omega)).symm
    have e2 : ts.getD i default = nd ts i := rfl
    rw [e1, e2] at he
    unfold keyN at he
    rw [Prod.mk.injEq] at he
    have hpi := h.par hpos hi
    by_cases hj0 : j = 0
    · subst hj0
      rw [h.root.1, hpi] at he
      omega
    · have hpj := h.par (show 0 < j by omega) (show j < ts.length by omega)
      rw [hpi, hpj] at he
      have := h.shp.sib j i (by omega) hji hi (by omega)
      exact vlt_ne this he.1
  · obtain ⟨last, hw, _⟩ := walk_V h ts.length (Nat.le_refl _)
    rw [hw]; simp
  · rw [Bool.not_eq_false]
    unfold namedT
    rw [List.all_eq_true]
    intro i hi
    rw [List.mem_range] at hi
    have e2 : ts.getD i default = nd ts i := rfl
    rw [e2]
    unfold nodNm
    rw [Bool.and_eq_true]
    refine ⟨?_, ?_⟩
    · by_cases hi0 : i = 0
      · subst hi0
        rw [if_pos rfl, h.root.1, h.root.2]; rfl
      · rw [if_neg hi0, h.par (by omega) hi]
        have := h.shp.par i (by omega) hi
        have hn := (h.name (show 0 < i by omega) hi).1
        unfold nmT at hn
        rw [hn]
        simp; omega
    · rw [List.all_eq_true]
      intro p hp
      exact ((h.prp i hi).prop p hp).1
  · rw [Bool.not_eq_true, List.any_eq_false]
    intro n hn
    obtain ⟨i, hi, rfl⟩ := List.getElem_of_mem hn
    rw [← nd_get hi]
    have hp := h.prp i hi
    have hl := hp.len
    unfold bigN
    rw [Bool.not_eq_true, Bool.or_eq_false_iff]
    refine ⟨by simp; omega, ?_⟩
    rw [List.any_eq_false]
    intro p hq
    have := (hp.mem p hq).2
    simp; omega
end Go.Proofs.YtgembejpiecfcaaGreatDoor

set_option linter.unusedVariables false
set_option linter.unusedSimpArgs false
namespace Go.Proofs.YtgembejpiecfcaaGreatDoor
open Go.RowKit
def cell4 (n : Nat) : St := [UInt8.ofNat (n / 16777216), UInt8.ofNat (n / 65536), UInt8.ofNat (n / 256), UInt8.ofNat n]
def num4 (a b c d : UInt8) : Nat := a.toNat * 16777216 + b.toNat * 65536 + c.toNat * 256 + d.toNat
def cellsL : St → List Int
  | a :: b :: c :: d :: r => ((num4 a b c d : Nat) : Int) :: cellsL r
  | _ => []
def cellsOk (v : St) : Bool := !v.isEmpty && v.length % 4 == 0
def cellsS (l : List Nat) : St := l.flatMap cell4
theorem cellsL_length : ∀ (v : St), (cellsL v).length = v.length / 4
  | [] => rfl
  | [_] => by simp [cellsL]
  | [_, _] => by simp [cellsL]
  | [_, _, _] => by simp [cellsL]
  | a :: b :: c :: d :: r => by
    rw [cellsL, List.length_cons, cellsL_length r]; simp only [List.length_cons]; omega
def valP (ps : List Prp) (name : St) : Option St := (ps.find? (fun p => p.name == name)).map Prp.val
def phS : St := [112, 104, 97, 110, 100, 108, 101]
structure Lnk where
  node : Int
  prov : Int
  prop : St
  idx : Int
  args : List Int
  deriving DecidableEq
instance : Inhabited Lnk := ⟨⟨0, 0, [], 0, []⟩⟩
end Go.Proofs.YtgembejpiecfcaaGreatDoor

set_option linter.unusedVariables false
set_option linter.unusedSimpArgs false
namespace Go.Proofs.YtgembejpiecfcaaGreatDoor
open Go.RowKit
open Classical
theorem anc_congr {n : Nat} {q q' : Nat → Nat} (hp : ∀ i, 0 < i → i < n → q i < i) (hq : ∀ i, i < n → q i = q' i) {a b : Nat} (h : Anc q a b) (hb : b < n) : Anc q' a b := by
  induction h with
  | refl => exact .refl
  | @up u h0 _ ih =>
    have := hp u h0 hb
    refine .up h0 ?_
    rw [← hq u hb]
    exact ih (by omega)
theorem dep_congr {n : Nat} {q q' : Nat → Nat} (hp : ∀ i, 0 < i → i < n → q i < i) (hq : ∀ i, i < n → q i = q' i) {b d : Nat} (h : Dep q b d) (hb : b < n) : Dep q' b d := by
  induction h with
  | zero => exact .zero
  | @succ u d h0 _ ih =>
    have := hp u h0 hb
    refine .succ h0 ?_
    rw [← hq u hb]
    exact ih (by omega)
theorem Shp.congr {n : Nat} {q q' : Nat → Nat} {nm nm' : Nat → St} (h : Shp n q nm) (hq : ∀ i, i < n → q i = q' i) (hn : ∀ i, i < n → nm i = nm' i) : Shp n q' nm' :=
  ⟨fun i h0 hi => by rw [← hq i hi]; exact h.par i h0 hi, fun i h0 hi => by rw [← hq i hi]; exact anc_congr h.par hq (h.ord i h0 hi) (by omega),
    fun i j h0 hij hj he => by rw [← hn i (by omega), ← hn j hj]; exact h.sib i j h0 hij hj (by rw [hq i (by omega), hq j hj]; exact he),
    fun i hi => by obtain ⟨d, h1, h2⟩ := h.dep i hi; exact ⟨d, h1, dep_congr h.par hq h2 hi⟩⟩
/-! One more node. -/
def newT (ts : Tr) (k : Nat) (x : St) : Tr := ts ++ [⟨(k : Int), x, []⟩]
def ordL (n p : Nat) : List Nat := List.range p ++ n :: List.range' p (n - p)
def movN (n p : Nat) (u : Tr) (j : Nat) : Nod := if 0 < j then { nd u j with parent := (pim n p (pq u j) : Int) } else nd u j
def addT (ts : Tr) (k : Nat) (x : St) (p : Nat) : Tr := (ordL ts.length p).map (movN ts.length p (newT ts k x))
theorem ordL_len {n p : Nat} (h : p ≤ n) : (ordL n p).length = n + 1 := by
  unfold ordL
  rw [List.length_append, List.length_cons, List.length_range, List.length_range']; omega
theorem ordL_get {n p i : Nat} (h : p ≤ n) (hi : i < n + 1) : (ordL n p)[i]? = some (if i < p then i else if i = p then n else i - 1) := by
  unfold ordL
  by_cases h1 : i < p
  · rw [if_pos h1, List.getElem?_append_left (by simpa using h1), List.getElem?_range h1]
  · rw [if_neg h1, List.getElem?_append_right (by simpa using h1), List.length_range]
    by_cases h2 : i = p
    · subst h2; rw [if_pos rfl, Nat.sub_self]; rfl
    · rw [if_neg h2]
      obtain ⟨d, hd⟩ : ∃ d, i - p = d + 1 := ⟨i - p - 1, by omega⟩
      rw [hd, List.getElem?_cons_succ, List.getElem?_range' (by omega)]
      congr 1; omega
theorem nd_new_old {ts : Tr} {k : Nat} {x : St} {i : Nat} (h : i < ts.length) : nd (newT ts k x) i = nd ts i := by
  unfold nd newT
  rw [List.getD_eq_getElem?_getD, List.getD_eq_getElem?_getD, List.getElem?_append_left h]
theorem nd_new_new {ts : Tr} {k : Nat} {x : St} : nd (newT ts k x) ts.length = ⟨(k : Int), x, []⟩ := by
  unfold nd newT
  rw [List.getD_eq_getElem?_getD, List.getElem?_append_right (Nat.le_refl _), Nat.sub_self]; rfl
theorem nd_add {ts : Tr} {k : Nat} {x : St} {p i : Nat} (hp : p ≤ ts.length) (hi : i < ts.length + 1) : nd (addT ts k x p) i = movN ts.length p (newT ts k x) (if i < p then i else if i = p then ts.length else i - 1) := by
  unfold addT
  conv => lhs; unfold nd
  rw [List.getD_eq_getElem?_getD, List.getElem?_map, ordL_get hp hi]; rfl
theorem VT_add {ts : Tr} {k : Nat} {x : St} {p : Nat} (h : VT ts) (hk : k < ts.length) (hn : ts.length < 120) (hm : x ∈ nodesV) (hx : ∀ i, 0 < i → i < ts.length → pq ts i = k → nmT ts i ≠ x) (hd : ∃ d, d ≤ 7 ∧ Dep (pq ts) k d) (hi : InsAt ts.length (pq ts) (nmT ts) k x p) : VT (addT ts k x p) := by
  have lo := hi.lo
  have hi' := hi.hi
  have hlen : (addT ts k x p).length = ts.length + 1 := by unfold addT; rw [List.length_map, ordL_len hi']
  have hpos := h.pos
  have hroot : nd (addT ts k x p) 0 = nd ts 0 := by
    rw [nd_add hi' (by omega), if_pos (by omega)]
    unfold movN
    rw [if_neg (by omega), nd_new_old hpos]
  have hold : ∀ j, 0 < j → j < ts.length → movN ts.length p (newT ts k x) j = { nd ts j with parent := (sh p (pq ts j) : Int) } := fun j h0 hj => by
    unfold movN
    rw [if_pos h0]
    have e : pq (newT ts k x) j = pq ts j := by unfold pq; rw [nd_new_old hj]
    have := h.shp.par j h0 hj
    rw [e, nd_new_old hj]
    congr 2
    unfold pim
    rw [if_neg (by omega)]
  have hnew : movN ts.length p (newT ts k x) ts.length = ⟨(k : Int), x, []⟩ := by
    unfold movN
    rw [if_pos hpos]
    have e : pq (newT ts k x) ts.length = k := by unfold pq; rw [nd_new_new]; simp
    rw [e, nd_new_new]
    congr 2
    unfold pim
    rw [if_neg (by omega), sh_lt lo]
  have hat : ∀ i, 0 < i → i < ts.length + 1 → (i = p ∧ nd (addT ts k x p) i = ⟨(k : Int), x, []⟩) ∨ ∃ j, 0 < j ∧ j < ts.length ∧ i = sh p j ∧ nd (addT ts k x p) i = { nd ts j with parent := (sh p (pq ts j) : Int) } := fun i h0 hin => by
    rw [nd_add hi' hin]
    by_cases h1 : i < p
    · exact .inr ⟨i, h0, by omega, (sh_lt h1).symm, by rw [if_pos h1, hold i h0 (by omega)]⟩
    · by_cases h2 : i = p
      · exact .inl ⟨h2, by rw [if_neg h1, if_pos h2, hnew]⟩
      · exact .inr ⟨i - 1, by omega, by omega, by rw [sh_ge (by omega)]; omega, by rw [if_neg h1, if_neg h2, hold (i - 1) (by omega) (by omega)]⟩
  have hq : ∀ i, i < ts.length + 1 → qn p k (pq ts) i = pq (addT ts k x p) i := fun i hin => by
    by_cases h0 : i = 0
    · subst h0
      unfold qn
      rw [if_pos (by omega)]
      unfold pq
      rw [hroot]
    · rcases hat i (by omega) hin with ⟨e, e2⟩ | ⟨j, j1, j2, e, e2⟩
      · subst e; rw [qn_new]; unfold pq; rw [e2]; simp
      · subst e
        rw [qn_sh h.shp.par p k j1 j2]
        conv => rhs; unfold pq
        rw [e2]; simp
  have hnm : ∀ i, i < ts.length + 1 → nn p x (nmT ts) i = nmT (addT ts k x p) i := fun i hin => by
    by_cases h0 : i = 0
    · subst h0
      unfold nn
      rw [if_pos (by omega)]
      unfold nmT
      rw [hroot]
    · rcases hat i (by omega) hin with ⟨e, e2⟩ | ⟨j, j1, j2, e, e2⟩
      · subst e; rw [nn_new]; unfold nmT; rw [e2]
      · subst e
        rw [nn_sh]
        conv => rhs; unfold nmT
        rw [e2]; rfl
  refine ⟨by rw [hlen]; omega, by rw [hlen]; omega, by rw [hroot]; exact h.root, fun i h0 hin => ?_, ?_, fun i h0 hin => ?_, fun i hin => ?_⟩
  · rw [hlen] at hin
    rcases hat i h0 hin with ⟨_, e2⟩ | ⟨j, _, _, _, e2⟩
    · rw [e2]; simp
    · rw [e2]; simp
  · rw [hlen]
    exact (shp_ins h.shp hk hi hx hd).congr hq hnm
  · rw [hlen] at hin
    rcases hat i h0 hin with ⟨_, e2⟩ | ⟨j, j1, j2, _, e2⟩
    · unfold nmT; rw [e2]; exact hm
    · have := h.nam j j1 j2
      unfold nmT at this ⊢
      rw [e2]; exact this
  · rw [hlen] at hin
    by_cases h0 : i = 0
    · subst h0; rw [hroot]; exact h.prp 0 hpos
    · rcases hat i (by omega) hin with ⟨_, e2⟩ | ⟨j, j1, j2, _, e2⟩
      · rw [e2]; exact ⟨by simp, fun p hp => by cases hp⟩
      · rw [e2]; exact h.prp j j2
/-! Other properties for a node. -/
def setN (ts : Tr) (k : Nat) (ps : List Prp) : Tr := ts.set k { nd ts k with props := ps }
theorem nd_set_same {ts : Tr} {k : Nat} {ps : List Prp} (hk : k < ts.length) : nd (setN ts k ps) k = { nd ts k with props := ps } := by
  conv => lhs; unfold nd
  unfold setN
  rw [List.getD_eq_getElem?_getD, List.getElem?_set_self hk]; rfl
theorem nd_set_ne {ts : Tr} {k i : Nat} {ps : List Prp} (h : i ≠ k) : nd (setN ts k ps) i = nd ts i := by
  conv => lhs; unfold nd
  unfold setN
  rw [List.getD_eq_getElem?_getD, List.getElem?_set_ne (Ne.symm h), ← List.getD_eq_getElem?_getD]; rfl
theorem nd_set_pn (ts : Tr) (k : Nat) (ps : List Prp) (hk : k < ts.length) (i : Nat) : (nd (setN ts k ps) i).parent = (nd ts i).parent ∧ (nd (setN ts k ps) i).name = (nd ts i).name := by
  by_cases h : i = k
  · subst h; rw [nd_set_same hk]; exact ⟨rfl, rfl⟩
  · rw [nd_set_ne h]; exact ⟨rfl, rfl⟩
theorem VT_set {ts : Tr} {k : Nat} {ps : List Prp} (h : VT ts) (hk : k < ts.length) (hp : PV ps) : VT (setN ts k ps) := by
  have hlen : (setN ts k ps).length = ts.length := by unfold setN; rw [List.length_set]
  have hpn := nd_set_pn ts k ps hk
  refine ⟨by rw [hlen]; exact h.pos, by rw [hlen]; exact h.few, by rw [(hpn 0).1, (hpn 0).2]; exact h.root, fun i h0 hi => by rw [(hpn i).1]; exact h.int i h0 (by rw [hlen] at hi; exact hi), ?_, fun i h0 hi => ?_, fun i hi => ?_⟩
  · rw [hlen]
    exact h.shp.congr (fun i _ => by unfold pq; rw [(hpn i).1]) (fun i _ => by unfold nmT; rw [(hpn i).2])
  · have := h.nam i h0 (by rw [hlen] at hi; exact hi)
    unfold nmT at this ⊢
    rw [(hpn i).2]; exact this
  · rw [hlen] at hi
    by_cases e : i = k
    · subst e; rw [nd_set_same hk]; exact hp
    · rw [nd_set_ne e]; exact h.prp i hi
def putP (l : List Prp) (p : Prp) : List Prp :=
  l.takeWhile (fun y => ltS y.name p.name) ++ p :: (match l.dropWhile (fun y => ltS y.name p.name) with | [] => [] | y :: r => if y.name = p.name then r else y :: r)
theorem putP_cons (y : Prp) (l : List Prp) (p : Prp) : putP (y :: l) p = if ltS y.name p.name = true then y :: putP l p else if y.name = p.name then p :: l else p :: y :: l := by
  unfold putP
  rw [List.takeWhile_cons, List.dropWhile_cons]
  by_cases h : ltS y.name p.name = true
  · rw [if_pos h, if_pos h, if_pos h]; rfl
  · rw [if_neg h, if_neg h, if_neg h]
    simp only [List.nil_append]
    split <;> rfl
theorem mem_putP {l : List Prp} {p y : Prp} : y ∈ putP l p → y = p ∨ y ∈ l := by
  induction l with
  | nil => intro h; unfold putP at h; simp at h; exact .inl h
  | cons z l ih =>
    rw [putP_cons]
    split
    · intro h
      rcases List.mem_cons.1 h with q | q
      · exact .inr (by rw [q]; simp)
      · exact (ih q).imp id (List.mem_cons_of_mem _)
    · split
      · intro h
        rcases List.mem_cons.1 h with q | q
        · exact .inl q
        · exact .inr (List.mem_cons_of_mem _ q)
      · intro h
        rcases List.mem_cons.1 h with q | q
        · exact .inl q
        · exact .inr q
theorem PV_put {l : List Prp} {p : Prp} (h : PV l) (hn : p.name ∈ namesV) (hv : p.val.length ≤ 256) : PV (putP l p) := by
  refine ⟨?_, fun y hy => ?_⟩
  · have := h.asc
    clear h hn hv
    induction l with
    | nil => unfold putP; simp
    | cons z l ih =>
      rw [List.pairwise_cons] at this
      rw [putP_cons]
      split
      · rename_i hz
        rw [List.pairwise_cons]
        refine ⟨fun y hy => ?_, ih this.2⟩
        rcases mem_putP hy with q | q
        · rw [q]; exact hz
        · exact this.1 y q
      · rename_i hz
        split
        · rename_i he
          rw [List.pairwise_cons]
          exact ⟨fun y hy => by rw [← he]; exact this.1 y hy, this.2⟩
        · rename_i he
          have hlt : ltS p.name z.name = true := by
            rcases vlt_tot p.name z.name with q | q | q
            · exact q
            · exact absurd q.symm he
            · exact absurd q hz
          rw [List.pairwise_cons, List.pairwise_cons]
          refine ⟨fun y hy => ?_, this⟩
          rcases List.mem_cons.1 hy with q | q
          · rw [q]; exact hlt
          · exact vlt_trans hlt (this.1 y q)
  · rcases mem_putP hy with q | q
    · rw [q]; exact ⟨hn, hv⟩
    · exact h.mem y q
/-! No property by a name that no board has. -/
def exS : St := [101, 120, 116, 114, 97]
def OkX (p : Prp) : Prop := p.name ≠ exS ∧ (p.name = phS → ∃ i : Nat, 1 ≤ i ∧ i ≤ 1000 ∧ p.val = cell4 i)
def NoX (ts : Tr) : Prop := ∀ i, ∀ p ∈ (nd ts i).props, OkX p
structure VB (ts : Tr) : Prop where
  v : VT ts
  x : NoX ts
theorem NoX.set {ts : Tr} {k : Nat} {ps : List Prp} (h : NoX ts) (hp : ∀ p ∈ ps, OkX p) : NoX (setN ts k ps) := fun i p hm => by
  by_cases e : i = k
  · subst e
    by_cases hk : i < ts.length
    · rw [nd_set_same hk] at hm; exact hp p hm
    · have e2 : setN ts i ps = ts := by unfold setN; exact List.set_eq_of_length_le (by omega)
      rw [e2] at hm; exact h i p hm
  · rw [nd_set_ne e] at hm; exact h i p hm
theorem noX_put {l : List Prp} {p : Prp} (h : ∀ y ∈ l, OkX y) (hp : OkX p) : ∀ y ∈ putP l p, OkX y := fun y hy => by
  rcases mem_putP hy with rfl | q
  · exact hp
  · exact h y q
theorem movN_props (n p : Nat) (u : Tr) (j : Nat) : (movN n p u j).props = (nd u j).props := by unfold movN; split <;> rfl
theorem NoX.new {ts : Tr} {k : Nat} {x : St} (h : NoX ts) : NoX (newT ts k x) := fun j q hq => by
  by_cases hj : j < ts.length
  · rw [nd_new_old hj] at hq; exact h j q hq
  · have e : (nd (newT ts k x) j).props = [] := by
      unfold nd newT
      rw [List.getD_eq_getElem?_getD, List.getElem?_append_right (by omega)]
      cases j - ts.length with
      | zero => rfl
      | succ d => rfl
    rw [e] at hq; cases hq
theorem NoX.add {ts : Tr} {k : Nat} {x : St} {p : Nat} (h : NoX ts) : NoX (addT ts k x p) := fun i q hq => by
  unfold addT nd at hq
  rw [List.getD_eq_getElem?_getD, List.getElem?_map] at hq
  cases e : (ordL ts.length p)[i]? with
  | none => rw [e] at hq; cases hq
  | some j =>
    rw [e] at hq
    have hq2 : q ∈ (movN ts.length p (newT ts k x) j).props := hq
    rw [movN_props] at hq2
    exact h.new j q hq2
end Go.Proofs.YtgembejpiecfcaaGreatDoor
