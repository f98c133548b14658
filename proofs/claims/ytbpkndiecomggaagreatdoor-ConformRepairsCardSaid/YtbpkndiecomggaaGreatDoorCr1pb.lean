/- Lemmas and contracts for the proof of ConformRepairs (several texts in one, printed by wip/tools/pack.py): VaC TeB VaD Kd UaA UbA UdF. -/
import Derived.Test.YtbpkndiecomggaaGreatDoorCr1pa
import Derived.OpenShut
import Derived.Maps.AppendAt
import Derived.Deep.RegionLaw
import Derived.Deep.AppendLies
import Derived.Deep.DeepCutAuto
import Derived.Lib.Split
import Derived.Lib.IndexMore
import Derived.Lib.Join
import Derived.Lib.AtoiAll
import Derived.Lib.ItoaNum
set_option maxRecDepth 100000
set_option maxHeartbeats 16000000
set_option linter.unusedVariables false
set_option linter.unusedSimpArgs false
namespace Go.Proofs.YtbpkndiecomggaaGreatDoor
open Go.RowKit
open Classical
def namesV : List St := [[35, 99, 101, 108, 108, 115], [99, 108, 111, 99, 107, 115], [99, 111, 109, 112, 97, 116, 105, 98, 108, 101], [101, 120, 116, 114, 97], [108, 97, 98, 101, 108], [112], [112, 104, 97, 110, 100, 108, 101], [113], [114, 97, 110, 103, 101, 115], [114, 101, 103], [115, 116, 97, 116, 117, 115], [118, 97, 108, 117, 101]]
def nodesV : List St := [[97], [98], [99], [99, 112, 117], [99, 108, 107], [98, 117, 115, 64, 49, 48], [100, 101, 118, 64, 50], [120, 95, 49], [122]]
theorem namesV_ok : namesV.all (fun s => propOk s && decide (s.length ≤ 31)) = true := by kernel_rfl
theorem nodesV_ok : nodesV.all (fun s => nameOk s && decide (s.length ≤ 31)) = true := by kernel_rfl
theorem namesV_asc : namesV.Pairwise (fun a b => ltS a b = true) := of_decide_eq_true (by kernel_rfl)
def nd (ts : Tr) (i : Nat) : Nod := ts.getD i default
def pq (ts : Tr) (i : Nat) : Nat := (nd ts i).parent.toNat
def nmT (ts : Tr) (i : Nat) : St := (nd ts i).name
theorem nd_get {ts : Tr} {i : Nat} (h : i < ts.length) : nd ts i = ts[i] := by unfold nd; rw [List.getD_eq_getElem?_getD, List.getElem?_eq_getElem h]; rfl
structure PV (ps : List Prp) : Prop where
  asc : ps.Pairwise (fun a b => ltS a.name b.name = true)
  mem : ∀ p ∈ ps, p.name ∈ namesV ∧ p.val.length ≤ 256
theorem subS_asc : ∀ (cs : List St), cs.Pairwise (fun a b => ltS a b = true) → ∀ l : List St, l.Pairwise (fun a b => ltS a b = true) → (∀ s ∈ l, s ∈ cs) → l.Sublist cs := by
  intro cs
  induction cs with
  | nil =>
    intro _ l _ h
    cases l with
    | nil => exact .slnil
    | cons x l => exact absurd (h x (by simp)) (by simp)
  | cons c cs ih =>
    intro hc l hl h
    rw [List.pairwise_cons] at hc
    cases l with
    | nil => exact List.nil_sublist _
    | cons x l =>
      rw [List.pairwise_cons] at hl
      rcases List.mem_cons.1 (h x (by simp)) with e | q
      · subst e
        refine .cons_cons _ (ih hc.2 l hl.2 (fun s hs => ?_))
        rcases List.mem_cons.1 (h s (List.mem_cons_of_mem _ hs)) with r | r
        · exact absurd r.symm (vlt_ne (hl.1 s hs))
        · exact r
      · refine .cons _ (ih hc.2 (x :: l) (List.pairwise_cons.2 hl) (fun s hs => ?_))
        rcases List.mem_cons.1 (h s hs) with r | r
        · subst r
          rcases List.mem_cons.1 hs with e | hs
          · subst e; exact absurd rfl (vlt_ne (hc.1 _ q))
          · have h1 := vlt_trans (hc.1 x q) (hl.1 _ hs)
            rw [vlt_irr] at h1; cases h1
        · exact r
theorem PV.len {ps : List Prp} (h : PV ps) : ps.length ≤ 12 := by
  have h1 := subS_asc _ namesV_asc (ps.map Prp.name) (by rw [List.pairwise_map]; exact h.asc) (fun s hs => by
    obtain ⟨p, hp, rfl⟩ := List.mem_map.1 hs
    exact (h.mem p hp).1)
  have := h1.length_le
  rw [List.length_map] at this
  exact this
theorem PV.prop {ps : List Prp} (h : PV ps) : ∀ p ∈ ps, propOk p.name = true ∧ p.name.length ≤ 31 := fun p hp => by
  have := List.all_eq_true.1 namesV_ok _ (h.mem p hp).1
  simpa using this
structure VT (ts : Tr) : Prop where
  pos : 0 < ts.length
  few : ts.length ≤ 120
  root : (nd ts 0).parent = -1 ∧ (nd ts 0).name = []
  int : ∀ i, 0 < i → i < ts.length → 0 ≤ (nd ts i).parent
  shp : Shp ts.length (pq ts) (nmT ts)
  nam : ∀ i, 0 < i → i < ts.length → nmT ts i ∈ nodesV
  prp : ∀ i, i < ts.length → PV (nd ts i).props
theorem VT.par {ts : Tr} (h : VT ts) {i : Nat} (h0 : 0 < i) (hi : i < ts.length) : (nd ts i).parent = (pq ts i : Int) := by
  have := h.int i h0 hi
  unfold pq; omega
theorem VT.name {ts : Tr} (h : VT ts) {i : Nat} (h0 : 0 < i) (hi : i < ts.length) : nameOk (nmT ts i) = true ∧ (nmT ts i).length ≤ 31 := by
  have := List.all_eq_true.1 nodesV_ok _ (h.nam i h0 hi)
  simpa using this
theorem ascP_of {ps : List Prp} (h : ps.Pairwise (fun a b => ltS a.name b.name = true)) : ascP ps = true := by
  unfold ascP
  rw [List.all_eq_true]
  intro k hk
  rw [List.mem_range] at hk
  rw [List.getD_eq_getElem?_getD, List.getD_eq_getElem?_getD, List.getElem?_eq_getElem (by omega), List.getElem?_eq_getElem (by omega)]
  rw [List.pairwise_iff_getElem] at h
  exact h k (k + 1) (by omega) (by omega) (by omega)
theorem VT.asc {ts : Tr} (h : VT ts) {i : Nat} (hi : i < ts.length) : ascP (nd ts i).props = true := ascP_of (h.prp i hi).asc
theorem climb_anc {ts : Tr} (h : VT ts) {p u : Nat} (ha : Anc (pq ts) p u) : ∀ f, u < f → u < ts.length → climb ts p f (u : Int) = p := by
  induction ha with
  | refl =>
    intro f hf hu
    obtain ⟨g, rfl⟩ : ∃ g, f = g + 1 := ⟨f - 1, by omega⟩
    rw [climb, if_neg (by omega), if_pos rfl]
  | @up u h0 _ ih =>
    intro f hf hu
    obtain ⟨g, rfl⟩ : ∃ g, f = g + 1 := ⟨f - 1, by omega⟩
    have hp := h.shp.par u h0 hu
    rw [climb, if_neg (by omega)]
    split
    · rename_i e; exact e
    · have e : par ts (u : Int) = (pq ts u : Int) := by
        unfold Go.Proofs.YtbpkndiecomggaaGreatDoor.par
        rw [Int.toNat_natCast]
        exact h.par h0 hu
      rw [e]
      exact ih g (by omega) (by omega)
theorem walk_V {ts : Tr} (h : VT ts) : ∀ i, i ≤ ts.length → ∃ last, walkN ts i = some last ∧ last.length = ts.length ∧ ∀ u, u < ts.length → last.getD u [] = [] ∨ ∃ c, 0 < c ∧ c < i ∧ pq ts c = u ∧ last.getD u [] = nmT ts c := by
  intro i
  induction i with
  | zero =>
    intro _
    refine ⟨_, rfl, by simp, fun u hu => .inl ?_⟩
    rw [List.getD_eq_getElem?_getD, List.getElem?_replicate]
    split <;> rfl
  | succ i ih =>
    intro hi
    obtain ⟨last, hw, hl, hu⟩ := ih (by omega)
    rw [walkN, hw]
    have hn : ts.getD i default = nd ts i := rfl
    simp only [hn, h.asc (show i < ts.length by omega), if_true]
    by_cases h0 : i = 0
    · subst h0
      rw [if_pos rfl]
      refine ⟨last, rfl, hl, fun u h1 => ?_⟩
      rcases hu u h1 with q | ⟨c, q1, q2, _⟩
      · exact .inl q
      · omega
    · rw [if_neg h0]
      have hpar := h.par (show 0 < i by omega) (show i < ts.length by omega)
      have hc := climb_anc h (h.shp.ord i (by omega) (by omega)) i (by omega) (by omega)
      have hpi := h.shp.par i (by omega) (by omega)
      rw [hpar, show ((i : Int) - 1) = ((i - 1 : Nat) : Int) by omega, hc, if_neg (by omega), Int.toNat_natCast]
      have hlow : ltS (nd ts i).name (last.getD (pq ts i) []) = false := by
        rcases hu (pq ts i) (by omega) with q | ⟨c, q1, q2, q3, q4⟩
        · rw [q]
          unfold ltS
          cases (nd ts i).name <;> rfl
        · rw [q4]
          exact vlt_not (h.shp.sib c i q1 q2 (by omega) q3)
      rw [hlow, if_neg (by simp)]
      refine ⟨_, rfl, by rw [List.length_set, hl], fun u h1 => ?_⟩
      by_cases e : u = pq ts i
      · subst e
        refine .inr ⟨i, by omega, by omega, rfl, ?_⟩
        rw [List.getD_eq_getElem?_getD, List.getElem?_set_self (by rw [hl]; omega)]
        rfl
      · rw [List.getD_eq_getElem?_getD, List.getElem?_set_ne (by omega), ← List.getD_eq_getElem?_getD]
        rcases hu u h1 with q | ⟨c, q1, q2, q3⟩
        · exact .inl q
        · exact .inr ⟨c, q1, by omega, q3⟩
theorem dep_V {ts : Tr} (h : VT ts) {u d : Nat} (hd : Dep (pq ts) u d) : ∀ f, u ≤ f → u < ts.length → depN ts f (u : Int) = d := by
  induction hd with
  | zero => intro f _ _; cases f <;> rfl
  | @succ u d h0 _ ih =>
    intro f hf hu
    obtain ⟨g, rfl⟩ : ∃ g, f = g + 1 := ⟨f - 1, by omega⟩
    have hp := h.shp.par u h0 hu
    have e : par ts (u : Int) = (pq ts u : Int) := by
      unfold Go.Proofs.YtbpkndiecomggaaGreatDoor.par
      rw [Int.toNat_natCast]
      exact h.par h0 hu
    rw [depN, if_pos (by omega), e, ih g (by omega) (by omega)]
theorem chk_V {ts : Tr} (h : VT ts) : chkT ts = 0 := by
  have h0 := h.pos
  have h1 := h.few
  unfold chkT
  rw [if_neg (by omega), if_neg, if_neg, if_neg, if_neg, if_neg]
  · rw [Bool.not_eq_true, List.any_eq_false]
    intro i hi
    rw [List.mem_range] at hi
    obtain ⟨d, hd1, hd2⟩ := h.shp.dep i hi
    rw [dep_V h hd2 i (Nat.le_refl _) hi]
    simp; omega
  · rw [Bool.not_eq_true]
    unfold dupT
    rw [List.any_eq_false]
    intro i hi
    rw [List.mem_range] at hi
    simp only [Bool.and_eq_true, decide_eq_true_eq, not_and]
    intro hpos hc
    rw [List.contains_iff_mem] at hc
    obtain ⟨n, hn, he⟩ := List.mem_map.1 hc
    obtain ⟨j, hj, rfl⟩ := List.getElem_of_mem hn
    rw [List.getElem_take] at he
    rw [List.length_take] at hj
    have hji : j < i := by omega
    have e1 : ts[j]'(by omega) = nd ts j := (nd_get (by omega)).symm
    have e2 : ts.getD i default = nd ts i := rfl
    rw [e1, e2] at he
    unfold keyN at he
    rw [Prod.mk.injEq] at he
    have hpi := h.par hpos hi
    by_cases hj0 : j = 0
    · subst hj0
      rw [h.root.1, hpi] at he
      omega
    · have hpj := h.par (show 0 < j by omega) (show j < ts.length by omega)
      rw [hpi, hpj] at he
      have := h.shp.sib j i (by omega) hji hi (by omega)
      exact vlt_ne this he.1
  · obtain ⟨last, hw, _⟩ := walk_V h ts.length (Nat.le_refl _)
    rw [hw]; simp
  · rw [Bool.not_eq_false]
    unfold namedT
    rw [List.all_eq_true]
    intro i hi
    rw [List.mem_range] at hi
    have e2 : ts.getD i default = nd ts i := rfl
    rw [e2]
    unfold nodNm
    rw [Bool.and_eq_true]
    refine ⟨?_, ?_⟩
    · by_cases hi0 : i = 0
      · subst hi0
        rw [if_pos rfl, h.root.1, h.root.2]; rfl
      · rw [if_neg hi0, h.par (by omega) hi]
        have := h.shp.par i (by omega) hi
        have hn := (h.name (show 0 < i by omega) hi).1
        unfold nmT at hn
        rw [hn]
        simp; omega
    · rw [List.all_eq_true]
      intro p hp
      exact ((h.prp i hi).prop p hp).1
  · rw [Bool.not_eq_true, List.any_eq_false]
    intro n hn
    obtain ⟨i, hi, rfl⟩ := List.getElem_of_mem hn
    rw [← nd_get hi]
    have hp := h.prp i hi
    have hl := hp.len
    unfold bigN
    rw [Bool.not_eq_true, Bool.or_eq_false_iff]
    refine ⟨by simp; omega, ?_⟩
    rw [List.any_eq_false]
    intro p hq
    have := (hp.mem p hq).2
    simp; omega
end Go.Proofs.YtbpkndiecomggaaGreatDoor

set_option linter.unusedVariables false
set_option linter.unusedSimpArgs false
namespace Go.Proofs.YtbpkndiecomggaaGreatDoor
open Go.RowKit
def cell4 (n : Nat) : St := [UInt8.ofNat (n / 16777216), UInt8.ofNat (n / 65536), UInt8.ofNat (n / 256), UInt8.ofNat n]
def num4 (a b c d : UInt8) : Nat := a.toNat * 16777216 + b.toNat * 65536 + c.toNat * 256 + d.toNat
def cellsL : St → List Int
  | a :: b :: c :: d :: r => ((num4 a b c d : Nat) : Int) :: cellsL r
  | _ => []
def cellsOk (v : St) : Bool := !v.isEmpty && v.length % 4 == 0
def cellsS (l : List Nat) : St := l.flatMap cell4
theorem num4_cell4 (n : Nat) (h : n < 4294967296) : num4 (UInt8.ofNat (n / 16777216)) (UInt8.ofNat (n / 65536)) (UInt8.ofNat (n / 256)) (UInt8.ofNat n) = n := by
  unfold num4
  simp only [UInt8.toNat_ofNat']
  omega
theorem cellsL_cell4 (n : Nat) (h : n < 4294967296) (r : St) : cellsL (cell4 n ++ r) = (n : Int) :: cellsL r := by
  simp only [cell4, List.cons_append, List.nil_append, cellsL, num4_cell4 n h]
theorem cellsL_cellsS (l : List Nat) (h : ∀ n ∈ l, n < 4294967296) : cellsL (cellsS l) = l.map (fun n : Nat => (n : Int)) := by
  induction l with
  | nil => rfl
  | cons n l ih =>
    unfold cellsS at ih ⊢
    rw [List.flatMap_cons, cellsL_cell4 n (h n (List.mem_cons_self ..)), ih (fun m hm => h m (List.mem_cons_of_mem _ hm))]; rfl
theorem cellsL_length : ∀ (v : St), (cellsL v).length = v.length / 4
  | [] => rfl
  | [_] => by simp [cellsL]
  | [_, _] => by simp [cellsL]
  | [_, _, _] => by simp [cellsL]
  | a :: b :: c :: d :: r => by
    rw [cellsL, List.length_cons, cellsL_length r]; simp only [List.length_cons]; omega
def valP (ps : List Prp) (name : St) : Option St := (ps.find? (fun p => p.name == name)).map Prp.val
def phS : St := [112, 104, 97, 110, 100, 108, 101]
def phan (ts : Tr) (p : Int) : Option Nat :=
  if 1 ≤ p ∧ p ≤ 1048576 then ts.findIdx? (fun n => n.props.contains ⟨phS, cell4 p.toNat⟩) else none
structure Lnk where
  node : Int
  prov : Int
  prop : St
  idx : Int
  args : List Int
  deriving DecidableEq
instance : Inhabited Lnk := ⟨⟨0, 0, [], 0, []⟩⟩
end Go.Proofs.YtbpkndiecomggaaGreatDoor

set_option linter.unusedVariables false
set_option linter.unusedSimpArgs false
namespace Go.Proofs.YtbpkndiecomggaaGreatDoor
open Go.RowKit
open Classical
theorem anc_congr {n : Nat} {q q' : Nat → Nat} (hp : ∀ i, 0 < i → i < n → q i < i) (hq : ∀ i, i < n → q i = q' i) {a b : Nat} (h : Anc q a b) (hb : b < n) : Anc q' a b := by
  induction h with
  | refl => exact .refl
  | @up u h0 _ ih =>
    have := hp u h0 hb
    refine .up h0 ?_
    rw [← hq u hb]
    exact ih (by omega)
theorem dep_congr {n : Nat} {q q' : Nat → Nat} (hp : ∀ i, 0 < i → i < n → q i < i) (hq : ∀ i, i < n → q i = q' i) {b d : Nat} (h : Dep q b d) (hb : b < n) : Dep q' b d := by
  induction h with
  | zero => exact .zero
  | @succ u d h0 _ ih =>
    have := hp u h0 hb
    refine .succ h0 ?_
    rw [← hq u hb]
    exact ih (by omega)
theorem Shp.congr {n : Nat} {q q' : Nat → Nat} {nm nm' : Nat → St} (h : Shp n q nm) (hq : ∀ i, i < n → q i = q' i) (hn : ∀ i, i < n → nm i = nm' i) : Shp n q' nm' :=
  ⟨fun i h0 hi => by rw [← hq i hi]; exact h.par i h0 hi, fun i h0 hi => by rw [← hq i hi]; exact anc_congr h.par hq (h.ord i h0 hi) (by omega),
    fun i j h0 hij hj he => by rw [← hn i (by omega), ← hn j hj]; exact h.sib i j h0 hij hj (by rw [hq i (by omega), hq j hj]; exact he),
    fun i hi => by obtain ⟨d, h1, h2⟩ := h.dep i hi; exact ⟨d, h1, dep_congr h.par hq h2 hi⟩⟩
/-! One more node. -/
def newT (ts : Tr) (k : Nat) (x : St) : Tr := ts ++ [⟨(k : Int), x, []⟩]
def ordL (n p : Nat) : List Nat := List.range p ++ n :: List.range' p (n - p)
def movN (n p : Nat) (u : Tr) (j : Nat) : Nod := if 0 < j then { nd u j with parent := (pim n p (pq u j) : Int) } else nd u j
def addT (ts : Tr) (k : Nat) (x : St) (p : Nat) : Tr := (ordL ts.length p).map (movN ts.length p (newT ts k x))
theorem ordL_len {n p : Nat} (h : p ≤ n) : (ordL n p).length = n + 1 := by
  unfold ordL
  rw [List.length_append, List.length_cons, List.length_range, List.length_range']; omega
theorem ordL_get {n p i : Nat} (h : p ≤ n) (hi : i < n + 1) : (ordL n p)[i]? = some (if i < p then i else if i = p then n else i - 1) := by
  unfold ordL
  by_cases h1 : i < p
  · rw [if_pos h1, List.getElem?_append_left (by simpa using h1), List.getElem?_range h1]
  · rw [if_neg h1, List.getElem?_append_right (by simpa using h1), List.length_range]
    by_cases h2 : i = p
    · subst h2; rw [if_pos rfl, Nat.sub_self]; rfl
    · rw [if_neg h2]
      obtain ⟨d, hd⟩ : ∃ d, i - p = d + 1 := ⟨i - p - 1, by omega⟩
      rw [hd, List.getElem?_cons_succ, List.getElem?_range' (by omega)]
      congr 1; omega
theorem nd_new_old {ts : Tr} {k : Nat} {x : St} {i : Nat} (h : i < ts.length) : nd (newT ts k x) i = nd ts i := by
  unfold nd newT
  rw [List.getD_eq_getElem?_getD, List.getD_eq_getElem?_getD, List.getElem?_append_left h]
theorem nd_new_new {ts : Tr} {k : Nat} {x : St} : nd (newT ts k x) ts.length = ⟨(k : Int), x, []⟩ := by
  unfold nd newT
  rw [List.getD_eq_getElem?_getD, List.getElem?_append_right (Nat.le_refl _), Nat.sub_self]; rfl
theorem nd_add {ts : Tr} {k : Nat} {x : St} {p i : Nat} (hp : p ≤ ts.length) (hi : i < ts.length + 1) : nd (addT ts k x p) i = movN ts.length p (newT ts k x) (if i < p then i else if i = p then ts.length else i - 1) := by
  unfold addT
  conv => lhs; unfold nd
  rw [List.getD_eq_getElem?_getD, List.getElem?_map, ordL_get hp hi]; rfl
theorem VT_add {ts : Tr} {k : Nat} {x : St} {p : Nat} (h : VT ts) (hk : k < ts.length) (hn : ts.length < 120) (hm : x ∈ nodesV) (hx : ∀ i, 0 < i → i < ts.length → pq ts i = k → nmT ts i ≠ x) (hd : ∃ d, d ≤ 7 ∧ Dep (pq ts) k d) (hi : InsAt ts.length (pq ts) (nmT ts) k x p) : VT (addT ts k x p) := by
  have lo := hi.lo
  have hi' := hi.hi
  have hlen : (addT ts k x p).length = ts.length + 1 := by unfold addT; rw [List.length_map, ordL_len hi']
  have hpos := h.pos
  have hroot : nd (addT ts k x p) 0 = nd ts 0 := by
    rw [nd_add hi' (by omega), if_pos (by omega)]
    unfold movN
    rw [if_neg (by omega), nd_new_old hpos]
  have hold : ∀ j, 0 < j → j < ts.length → movN ts.length p (newT ts k x) j = { nd ts j with parent := (sh p (pq ts j) : Int) } := fun j h0 hj => by
    unfold movN
    rw [if_pos h0]
    have e : pq (newT ts k x) j = pq ts j := by unfold pq; rw [nd_new_old hj]
    have := h.shp.par j h0 hj
    rw [e, nd_new_old hj]
    congr 2
    unfold pim
    rw [if_neg (by omega)]
  have hnew : movN ts.length p (newT ts k x) ts.length = ⟨(k : Int), x, []⟩ := by
    unfold movN
    rw [if_pos hpos]
    have e : pq (newT ts k x) ts.length = k := by unfold pq; rw [nd_new_new]; simp
    rw [e, nd_new_new]
    congr 2
    unfold pim
    rw [if_neg (by omega), sh_lt lo]
  have hat : ∀ i, 0 < i → i < ts.length + 1 → (i = p ∧ nd (addT ts k x p) i = ⟨(k : Int), x, []⟩) ∨ ∃ j, 0 < j ∧ j < ts.length ∧ i = sh p j ∧ nd (addT ts k x p) i = { nd ts j with parent := (sh p (pq ts j) : Int) } := fun i h0 hin => by
    rw [nd_add hi' hin]
    by_cases h1 : i < p
    · exact .inr ⟨i, h0, by omega, (sh_lt h1).symm, by rw [if_pos h1, hold i h0 (by omega)]⟩
    · by_cases h2 : i = p
      · exact .inl ⟨h2, by rw [if_neg h1, if_pos h2, hnew]⟩
      · exact .inr ⟨i - 1, by omega, by omega, by rw [sh_ge (by omega)]; omega, by rw [if_neg h1, if_neg h2, hold (i - 1) (by omega) (by omega)]⟩
  have hq : ∀ i, i < ts.length + 1 → qn p k (pq ts) i = pq (addT ts k x p) i := fun i hin => by
    by_cases h0 : i = 0
    · subst h0
      unfold qn
      rw [if_pos (by omega)]
      unfold pq
      rw [hroot]
    · rcases hat i (by omega) hin with ⟨e, e2⟩ | ⟨j, j1, j2, e, e2⟩
      · subst e; rw [qn_new]; unfold pq; rw [e2]; simp
      · subst e
        rw [qn_sh h.shp.par p k j1 j2]
        conv => rhs; unfold pq
        rw [e2]; simp
  have hnm : ∀ i, i < ts.length + 1 → nn p x (nmT ts) i = nmT (addT ts k x p) i := fun i hin => by
    by_cases h0 : i = 0
    · subst h0
      unfold nn
      rw [if_pos (by omega)]
      unfold nmT
      rw [hroot]
    · rcases hat i (by omega) hin with ⟨e, e2⟩ | ⟨j, j1, j2, e, e2⟩
      · subst e; rw [nn_new]; unfold nmT; rw [e2]
      · subst e
        rw [nn_sh]
        conv => rhs; unfold nmT
        rw [e2]; rfl
  refine ⟨by rw [hlen]; omega, by rw [hlen]; omega, by rw [hroot]; exact h.root, fun i h0 hin => ?_, ?_, fun i h0 hin => ?_, fun i hin => ?_⟩
  · rw [hlen] at hin
    rcases hat i h0 hin with ⟨_, e2⟩ | ⟨j, _, _, _, e2⟩
    · rw [e2]; simp
    · rw [e2]; simp
  · rw [hlen]
    exact (shp_ins h.shp hk hi hx hd).congr hq hnm
  · rw [hlen] at hin
    rcases hat i h0 hin with ⟨_, e2⟩ | ⟨j, j1, j2, _, e2⟩
    · unfold nmT; rw [e2]; exact hm
    · have := h.nam j j1 j2
      unfold nmT at this ⊢
      rw [e2]; exact this
  · rw [hlen] at hin
    by_cases h0 : i = 0
    · subst h0; rw [hroot]; exact h.prp 0 hpos
    · rcases hat i (by omega) hin with ⟨_, e2⟩ | ⟨j, j1, j2, _, e2⟩
      · rw [e2]; exact ⟨by simp, fun p hp => by cases hp⟩
      · rw [e2]; exact h.prp j j2
/-! Other properties for a node. -/
def setN (ts : Tr) (k : Nat) (ps : List Prp) : Tr := ts.set k { nd ts k with props := ps }
theorem nd_set_same {ts : Tr} {k : Nat} {ps : List Prp} (hk : k < ts.length) : nd (setN ts k ps) k = { nd ts k with props := ps } := by
  conv => lhs; unfold nd
  unfold setN
  rw [List.getD_eq_getElem?_getD, List.getElem?_set_self hk]; rfl
theorem nd_set_ne {ts : Tr} {k i : Nat} {ps : List Prp} (h : i ≠ k) : nd (setN ts k ps) i = nd ts i := by
  conv => lhs; unfold nd
  unfold setN
  rw [List.getD_eq_getElem?_getD, List.getElem?_set_ne (Ne.symm h), ← List.getD_eq_getElem?_getD]; rfl
theorem nd_set_pn (ts : Tr) (k : Nat) (ps : List Prp) (hk : k < ts.length) (i : Nat) : (nd (setN ts k ps) i).parent = (nd ts i).parent ∧ (nd (setN ts k ps) i).name = (nd ts i).name := by
  by_cases h : i = k
  · subst h; rw [nd_set_same hk]; exact ⟨rfl, rfl⟩
  · rw [nd_set_ne h]; exact ⟨rfl, rfl⟩
theorem VT_set {ts : Tr} {k : Nat} {ps : List Prp} (h : VT ts) (hk : k < ts.length) (hp : PV ps) : VT (setN ts k ps) := by
  have hlen : (setN ts k ps).length = ts.length := by unfold setN; rw [List.length_set]
  have hpn := nd_set_pn ts k ps hk
  refine ⟨by rw [hlen]; exact h.pos, by rw [hlen]; exact h.few, by rw [(hpn 0).1, (hpn 0).2]; exact h.root, fun i h0 hi => by rw [(hpn i).1]; exact h.int i h0 (by rw [hlen] at hi; exact hi), ?_, fun i h0 hi => ?_, fun i hi => ?_⟩
  · rw [hlen]
    exact h.shp.congr (fun i _ => by unfold pq; rw [(hpn i).1]) (fun i _ => by unfold nmT; rw [(hpn i).2])
  · have := h.nam i h0 (by rw [hlen] at hi; exact hi)
    unfold nmT at this ⊢
    rw [(hpn i).2]; exact this
  · rw [hlen] at hi
    by_cases e : i = k
    · subst e; rw [nd_set_same hk]; exact hp
    · rw [nd_set_ne e]; exact h.prp i hi
def putP (l : List Prp) (p : Prp) : List Prp :=
  l.takeWhile (fun y => ltS y.name p.name) ++ p :: (match l.dropWhile (fun y => ltS y.name p.name) with | [] => [] | y :: r => if y.name = p.name then r else y :: r)
theorem putP_cons (y : Prp) (l : List Prp) (p : Prp) : putP (y :: l) p = if ltS y.name p.name = true then y :: putP l p else if y.name = p.name then p :: l else p :: y :: l := by
  unfold putP
  rw [List.takeWhile_cons, List.dropWhile_cons]
  by_cases h : ltS y.name p.name = true
  · rw [if_pos h, if_pos h, if_pos h]; rfl
  · rw [if_neg h, if_neg h, if_neg h]
    simp only [List.nil_append]
    split <;> rfl
theorem mem_putP {l : List Prp} {p y : Prp} : y ∈ putP l p → y = p ∨ y ∈ l := by
  induction l with
  | nil => intro h; unfold putP at h; simp at h; exact .inl h
  | cons z l ih =>
    rw [putP_cons]
    split
    · intro h
      rcases List.mem_cons.1 h with q | q
      · exact .inr (by rw [q]; simp)
      · exact (ih q).imp id (List.mem_cons_of_mem _)
    · split
      · intro h
        rcases List.mem_cons.1 h with q | q
        · exact .inl q
        · exact .inr (List.mem_cons_of_mem _ q)
      · intro h
        rcases List.mem_cons.1 h with q | q
        · exact .inl q
        · exact .inr q
theorem PV_put {l : List Prp} {p : Prp} (h : PV l) (hn : p.name ∈ namesV) (hv : p.val.length ≤ 256) : PV (putP l p) := by
  refine ⟨?_, fun y hy => ?_⟩
  · have := h.asc
    clear h hn hv
    induction l with
    | nil => unfold putP; simp
    | cons z l ih =>
      rw [List.pairwise_cons] at this
      rw [putP_cons]
      split
      · rename_i hz
        rw [List.pairwise_cons]
        refine ⟨fun y hy => ?_, ih this.2⟩
        rcases mem_putP hy with q | q
        · rw [q]; exact hz
        · exact this.1 y q
      · rename_i hz
        split
        · rename_i he
          rw [List.pairwise_cons]
          exact ⟨fun y hy => by rw [← he]; exact this.1 y hy, this.2⟩
        · rename_i he
          have hlt : ltS p.name z.name = true := by
            rcases vlt_tot p.name z.name with q | q | q
            · exact q
            · exact absurd q.symm he
            · exact absurd q hz
          rw [List.pairwise_cons, List.pairwise_cons]
          refine ⟨fun y hy => ?_, this⟩
          rcases List.mem_cons.1 hy with q | q
          · rw [q]; exact hlt
          · exact vlt_trans hlt (this.1 y q)
  · rcases mem_putP hy with q | q
    · rw [q]; exact ⟨hn, hv⟩
    · exact h.mem y q
/-! No property by a name that no board has. -/
def exS : St := [101, 120, 116, 114, 97]
def OkX (p : Prp) : Prop := p.name ≠ exS ∧ (p.name = phS → ∃ i : Nat, 1 ≤ i ∧ i ≤ 1000 ∧ p.val = cell4 i)
def NoX (ts : Tr) : Prop := ∀ i, ∀ p ∈ (nd ts i).props, OkX p
structure VB (ts : Tr) : Prop where
  v : VT ts
  x : NoX ts
theorem NoX.set {ts : Tr} {k : Nat} {ps : List Prp} (h : NoX ts) (hp : ∀ p ∈ ps, OkX p) : NoX (setN ts k ps) := fun i p hm => by
  by_cases e : i = k
  · subst e
    by_cases hk : i < ts.length
    · rw [nd_set_same hk] at hm; exact hp p hm
    · have e2 : setN ts i ps = ts := by unfold setN; exact List.set_eq_of_length_le (by omega)
      rw [e2] at hm; exact h i p hm
  · rw [nd_set_ne e] at hm; exact h i p hm
theorem noX_put {l : List Prp} {p : Prp} (h : ∀ y ∈ l, OkX y) (hp : OkX p) : ∀ y ∈ putP l p, OkX y := fun y hy => by
  rcases mem_putP hy with rfl | q
  · exact hp
  · exact h y q
theorem movN_props (n p : Nat) (u : Tr) (j : Nat) : (movN n p u j).props = (nd u j).props := by unfold movN; split <;> rfl
theorem NoX.new {ts : Tr} {k : Nat} {x : St} (h : NoX ts) : NoX (newT ts k x) := fun j q hq => by
  by_cases hj : j < ts.length
  · rw [nd_new_old hj] at hq; exact h j q hq
  · have e : (nd (newT ts k x) j).props = [] := by
      unfold nd newT
      rw [List.getD_eq_getElem?_getD, List.getElem?_append_right (by omega)]
      cases j - ts.length with
      | zero => rfl
      | succ d => rfl
    rw [e] at hq; cases hq
theorem NoX.add {ts : Tr} {k : Nat} {x : St} {p : Nat} (h : NoX ts) : NoX (addT ts k x p) := fun i q hq => by
  unfold addT nd at hq
  rw [List.getD_eq_getElem?_getD, List.getElem?_map] at hq
  cases e : (ordL ts.length p)[i]? with
  | none => rw [e] at hq; cases hq
  | some j =>
    rw [e] at hq
    have hq2 : q ∈ (movN ts.length p (newT ts k x) j).props := hq
    rw [movN_props] at hq2
    exact h.new j q hq2
end Go.Proofs.YtbpkndiecomggaaGreatDoor


/-! The operations of one region of a function, found by its number. -/
set_option linter.unusedVariables false
set_option linter.unusedSimpArgs false
namespace Go.Proofs.YtbpkndiecomggaaGreatDoor
open Go.RowKit
def regOps (id : Nat) : Code → Option (Array Oper)
  | .region i ops _ => bif Nat.beq i id then some ops else none
  | .seq a b => match regOps id a with | some o => some o | none => regOps id b
  | .cond _ a b => match regOps id a with | some o => some o | none => regOps id b
  | .block _ c => regOps id c
  | .loop c => regOps id c
  | .scope c => regOps id c
  | .rangeFunc _ _ a b => match regOps id a with | some o => some o | none => regOps id b
  | _ => none
def regIn (id : Nat) (f : Func) : Array Oper := ((f.body.bind (regOps id))).getD #[]
theorem wp_code_eq {P : Program} {c c' : Code} {Q : Exit → Act → World → Prop} {a : Act} {w : World} (h : c = c') (hw : c.wp P Q a w) : c'.wp P Q a w := h ▸ hw
end Go.Proofs.YtbpkndiecomggaaGreatDoor
/-! A region that draws its order, by an invariant that every ready operation keeps. -/
set_option linter.unusedVariables false
set_option linter.unusedSimpArgs false
namespace Go.Proofs.YtbpkndiecomggaaGreatDoor
open Go.RowKit
section
variable {P : Program} {ops : Array Oper} {md : Region.Mode}
def undone (done : Array Bool) : Nat := done.toList.count false
theorem undone_set {done : Array Bool} {i : Nat} (h : done.getD i true = false) : undone (done.setIfInBounds i true) + 1 = undone done := by
  have hi : i < done.size := by
    rcases Nat.lt_or_ge i done.size with q | q
    · exact q
    · simp [Array.getD, Nat.not_lt.2 q] at h
  have hd : done[i] = false := by simpa [Array.getD, hi] using h
  unfold undone
  rw [Array.toList_setIfInBounds, List.count_set (by simpa using hi)]
  have h1 : done.toList[i]'(by simpa using hi) = false := by simpa using hd
  have h2 : 0 < done.toList.count false := List.count_pos_iff.2 (by rw [← h1]; exact List.getElem_mem _)
  simp only [h1]
  rw [if_pos (by decide), if_neg (by decide)]
  omega
theorem any_of_inv {Q : Exit → Act → World → Prop} {Inv : Array Bool → Act → World → Prop} (hend : ∀ done a w, Region.ready md ops done = [] → Inv done a w → Q .normal a w)
    (step : ∀ done a w i, i ∈ Region.ready md ops done → Inv done a w → wpOp P ops Q i (fun a' w' => Inv (done.setIfInBounds i true) a' w') a w) (fuel : Nat) :
    ∀ done a w, undone done ≤ fuel → Inv done a w → wpAny P md ops Q fuel done a w := by
  induction fuel with
  | zero =>
    intro done a w hu h
    have hr : Region.ready md ops done = [] := by
      rcases hq : Region.ready md ops done with _ | ⟨i, t⟩
      · rfl
      · have hi : i ∈ Region.ready md ops done := by rw [hq]; simp
        have := undone_set (mem_ready.1 hi).1
        omega
    exact ⟨hr, hend _ _ _ hr h⟩
  | succ fuel ih =>
    intro done a w hu h
    refine ⟨fun hr => hend _ _ _ hr h, fun i hi => ?_⟩
    have hc := undone_set (mem_ready.1 hi).1
    exact wpOp_mono (fun a' w' h' => ih _ a' w' (by omega) h') (step done a w i hi h)
theorem wp_region_inv {id : Nat} {Q : Exit → Act → World → Prop} {a : Act} {w : World} (Inv : Array Bool → Act → World → Prop) (hm : P.follows .mixedOrders = true) (h0 : Inv (Array.replicate ops.size false) a w.drew)
    (step : ∀ done a w i, i ∈ Region.ready .any ops done → Inv done a w → wpOp P ops Q i (fun a' w' => Inv (done.setIfInBounds i true) a' w') a w)
    (hend : ∀ done a w, Region.ready .any ops done = [] → Inv done a w → Q .normal a w) : (Code.region id ops true).wp P Q a w :=
  wp_region_any hm (any_of_inv hend step ops.size _ _ _ (by simp [undone]) h0)
end
section
variable {P : Program}
def depIdx (o : Oper) : List Nat := (o.after.toList.filter (Region.binds .any)).map (·.on)
def Deps (done : Array Bool) (o : Oper) : Prop := ∀ j, (depIdx o).contains j = true → done.getD j false = true
theorem deps_of {done : Array Bool} {o : Oper} (h : ∀ e ∈ o.after, Region.binds .any e = true → done.getD e.on false = true) : Deps done o := by
  intro j hj
  simp only [depIdx, List.contains_iff_mem, List.mem_map, List.mem_filter, Array.mem_toList_iff] at hj
  obtain ⟨e, ⟨h1, h2⟩, rfl⟩ := hj
  exact h e h1 h2
def StepsI (P : Program) (ops : Array Oper) (Q : Exit → Act → World → Prop) (Inv : Array Bool → Act → World → Prop) : List Oper → Nat → Prop
  | [], _ => True
  | o :: l, i => (∀ done a w, done.size = ops.size → done.getD i true = false → Deps done o → Inv done a w → ∀ K : Act → World → Prop, (∀ a' w', Inv (done.setIfInBounds i true) a' w' → K a' w') → if Region.wanted o (yielded ops a.tmps) = true then Oper.wp P o a w K Q else K (a.put o.dst undef) w) ∧ StepsI P ops Q Inv l (i + 1)
theorem StepsI.at {ops : Array Oper} {Q : Exit → Act → World → Prop} {Inv : Array Bool → Act → World → Prop} : ∀ (l : List Oper) (k : Nat), StepsI P ops Q Inv l k → ∀ i o, l[i]? = some o → ∀ done a w, done.size = ops.size → done.getD (k + i) true = false → Deps done o → Inv done a w → ∀ K : Act → World → Prop, (∀ a' w', Inv (done.setIfInBounds (k + i) true) a' w' → K a' w') → if Region.wanted o (yielded ops a.tmps) = true then Oper.wp P o a w K Q else K (a.put o.dst undef) w
  | [], _, _, i, o, h => by simp at h
  | o' :: l, k, ⟨h0, hs⟩, i, o, h => by
    cases i with
    | zero => simp at h; subst h; exact h0
    | succ i =>
      have := StepsI.at l (k + 1) hs i o (by simpa using h)
      rw [show k + 1 + i = k + (i + 1) by omega] at this
      exact this
def earlier : List Oper → Nat → Bool
  | [], _ => true
  | o :: l, i => (depIdx o).all (fun j => Nat.blt j i) && earlier l (i + 1)
theorem earlier_at : ∀ (l : List Oper) (k : Nat), earlier l k = true → ∀ i o, l[i]? = some o → ∀ j ∈ depIdx o, j < k + i
  | [], _, _, i, o, h => by simp at h
  | o' :: l, k, he, i, o, h => by
    simp only [earlier, Bool.and_eq_true, List.all_eq_true] at he
    cases i with
    | zero =>
      simp at h; subst h
      intro j hj
      have := he.1 j hj
      simpa [Nat.blt_eq] using this
    | succ i =>
      intro j hj
      have := earlier_at l (k + 1) he.2 i o (by simpa using h) j hj
      omega
theorem all_done {l : List Oper} {done : Array Bool} (he : earlier l 0 = true) (hs : done.size = l.length) (hr : Region.ready .any l.toArray done = []) : ∀ i, i < l.length → done.getD i false = true := by
  intro i
  induction i using Nat.strongRecOn with
  | ind i ih =>
    intro hi
    have hi' : i < done.size := by omega
    cases hd : done[i] with
    | true => simp [Array.getD, hi', hd]
    | false =>
      exfalso
      have : i ∈ Region.ready .any l.toArray done := by
        refine mem_ready.2 ⟨by simp [Array.getD, hi', hd], l[i], by simp [hi], fun e h1 h2 => ?_⟩
        have hm : e.on ∈ depIdx l[i] := by
          simp only [depIdx, List.mem_map, List.mem_filter, Array.mem_toList_iff]
          exact ⟨e, ⟨h1, h2⟩, rfl⟩
        have := earlier_at l 0 he i l[i] (by simp [hi]) e.on hm
        exact ih e.on (by omega) (by omega)
      rw [hr] at this
      simp at this
theorem wp_region_steps {id : Nat} {l : List Oper} {Q : Exit → Act → World → Prop} {a : Act} {w : World} (Inv : Array Bool → Act → World → Prop) (hm : P.follows .mixedOrders = true) (he : earlier l 0 = true) (h0 : Inv (Array.replicate l.length false) a w.drew)
    (step : StepsI P l.toArray Q Inv l 0) (hend : ∀ done a w, (∀ i, i < l.length → done.getD i false = true) → Inv done a w → Q .normal a w) : (Code.region id l.toArray true).wp P Q a w := by
  refine wp_region_inv (fun done a w => done.size = l.length ∧ Inv done a w) hm ⟨by simp, by simpa using h0⟩ (fun done a w i hi ⟨hs, h⟩ => ?_) (fun done a w hr ⟨hs, h⟩ => hend done a w (all_done he hs hr) h)
  obtain ⟨h1, o, h2, h3⟩ := mem_ready.1 hi
  refine wpOp_step h2 fun K hK => ?_
  have := StepsI.at l 0 step i o (by simpa using h2) done a w (by simpa using hs) (by simpa using h1) (deps_of h3) h K (fun a' w' q => hK a' w' ⟨by simpa using hs, by simpa using q⟩)
  exact this
theorem getD_set_same {done : Array Bool} {i : Nat} (h : i < done.size) : (done.setIfInBounds i true).getD i false = true := by simp [Array.getD, h]
theorem done_old {done : Array Bool} {i j : Nat} (hj : (done.setIfInBounds i true).getD j false = true) (h : i ≠ j) : done.getD j false = true := by
  rw [getD_set_ne false h] at hj; exact hj
theorem kp {done : Array Bool} {i j : Nat} {P : Prop} (f : done.getD j false = true → P) (h : i ≠ j := by decide) : (done.setIfInBounds i true).getD j false = true → P := fun q => f (done_old q h)
end
end Go.Proofs.YtbpkndiecomggaaGreatDoor
/-! A tape is made of the numbers that came in. -/
set_option linter.unusedVariables false
set_option linter.unusedSimpArgs false
namespace Go.Proofs.YtbpkndiecomggaaGreatDoor
open Go.RowKit
def RowIn (w : World) (a : Option Addr) (len cap : Nat) (zs : List Int) : Prop :=
  (a = none ∧ len = 0 ∧ cap = 0 ∧ zs = []) ∨
  ∃ x, a = some x ∧ len ≤ cap ∧ cap ≤ maxLen ∧ zs.length = cap ∧ (∀ i, i < zs.length → w.cell? (x.add i) = some (.int .i64 (zs.getD i 0))) ∧ ∀ n ∈ zs, (Lit.int .i64 n).wf = true
theorem addr_of_cell {w : World} {x : Addr} {v : Value} (h : w.cell? x = some v) : x = ⟨x.block, x.off, none⟩ := by
  cases x with
  | mk b o s =>
    cases s with
    | none => rfl
    | some k => simp only [World.cell?] at h; split at h <;> simp at h
theorem RowIn.ints {w : World} {a : Option Addr} {len cap : Nat} {zs : List Int} (h : RowIn w a len cap zs) (b : Nat) (hb : w.heap.size ≤ b) (n : Nat) (hn : n ≤ len) : IntsIn w b a n := by
  intro k hk
  rcases h with ⟨_, h2, _⟩ | ⟨x, rfl, h1, h2, h3, h4, h5⟩
  · omega
  · have c0 := h4 0 (by omega)
    have ck := h4 k (by omega)
    simp only [Addr.add, if_true] at c0
    have hx := addr_of_cell c0
    refine ⟨x.block, x.off, zs.getD k 0, by rw [← hx], ?_, ?_, ?_⟩
    · rw [hx] at c0; have : x.block < w.heap.size := has_of_cell c0; omega
    · simp only [Addr.add] at ck
      split at ck
      · rename_i e; subst e; rw [hx] at ck; simpa using ck
      · exact ck
    · have hmem : zs.getD k 0 ∈ zs := by
        rw [List.getD_eq_getElem?_getD, List.getElem?_eq_getElem (by omega)]; simp
      have := h5 _ hmem
      have := bounds_i64 this
      omega
def NewTape (w : World) (len : Nat) (e : Ending) (w' : World) : Prop :=
  ∃ b n, e = .returned (.pointer (some ⟨b, 0, none⟩)) ∧ Tape w' b 0 n ∧ Gr w w' ∧ w.heap.size ≤ b ∧ n ≤ len
theorem newTape_any (w : World) (a : Option Addr) (len cap : Nat) (zs : List Int) (h : RowIn w a len cap zs) :
    Calls Tryz.prog 8 #[.slice a len cap] w (NewTape w len) := by
  have hi := h.ints
  have H := Lib.hid h
  rcases h with ⟨rfl, rfl, rfl, rfl⟩ | ⟨x, rfl, h1, h2, h3, _, _⟩
  · clear hi
    go_enter Tryz.func8, Tryz.ntmps8
    go_wp2
    go_ret
    refine ⟨w.heap.size, 0, rfl, ⟨none, 0, by simp [go_sem], by simp [go_sem], by simp [go_sem], by omega, by omega, by omega, fun k hk => by omega⟩, (Gr.refl w).alloc _, Nat.le_refl _, by omega⟩
  · unfold maxLen at h2
    have HI := Lib.hid hi
    clear hi h3
    by_cases hl : len ≤ 500
    · go_enter Tryz.func8, Tryz.ntmps8
      go_wp2
      go_ret
      refine ⟨w.heap.size, len, rfl, ⟨some x, cap, by simp [go_sem], by simp [go_sem], by simp [go_sem], by omega, by omega, by omega, ?_⟩, (Gr.refl w).alloc _, Nat.le_refl _, by omega⟩
      exact (HI.out w.heap.size (Nat.le_refl _) len (Nat.le_refl _)).gr ((Gr.refl w).alloc _)
    · go_enter Tryz.func8, Tryz.ntmps8
      go_wp2
      go_ret
      refine ⟨w.heap.size, 500, rfl, ⟨some x, cap, by simp [go_sem], by simp [go_sem], by simp [go_sem], by omega, by omega, by omega, ?_⟩, (Gr.refl w).alloc _, Nat.le_refl _, by omega⟩
      exact (HI.out w.heap.size (Nat.le_refl _) 500 (by omega)).gr ((Gr.refl w).alloc _)
end Go.Proofs.YtbpkndiecomggaaGreatDoor
/-! Worlds in which a tape has moved on and memory has grown (for the laws on rates). -/
set_option linter.unusedVariables false
set_option linter.unusedSimpArgs false
namespace Go.Proofs.YtbpkndiecomggaaGreatDoor
open Go.RowKit
open Classical
def Tp (w : World) (b len : Nat) : Prop := ∃ p, Tape w b p len
def Mv (b len : Nat) (w w' : World) : Prop := ∃ p : Int, 0 ≤ p ∧ p ≤ (len : Int) ∧ Gr (w.setCell ⟨b, 1, none⟩ (.int .i64 p)) w'
theorem size_set (w : World) (a : Addr) (v : Value) : (w.setCell a v).heap.size = w.heap.size := by simp [World.setCell]
theorem Tp.has {w : World} {b len : Nat} (h : Tp w b len) : b < w.heap.size := h.elim fun _ h => h.has
theorem Mv.tp {w w' : World} {b len : Nat} (h : Mv b len w w') (ht : Tp w b len) : Tp w' b len := by
  obtain ⟨p, h0, h1, hg⟩ := h
  obtain ⟨q, ht⟩ := ht
  exact ⟨p, (ht.set h0 h1).gr hg⟩
theorem Tp.gr {w w' : World} {b len : Nat} (h : Tp w b len) (hg : Gr w w') : Tp w' b len := h.elim fun p h => ⟨p, h.gr hg⟩
theorem Mv.of_gr {w w' : World} {b len : Nat} (ht : Tp w b len) (hg : Gr w w') : Mv b len w w' := by
  obtain ⟨p, ht⟩ := ht
  obtain ⟨ao, cap, c0, c1, c2, c3, c4, c5, c6⟩ := ht
  exact ⟨p, c3, c4, by rw [setCell_id c1]; exact hg⟩
theorem Mv.refl {w : World} {b len : Nat} (ht : Tp w b len) : Mv b len w w := .of_gr ht (Gr.refl w)
theorem gr_setCell {w w' : World} {b : Nat} (hg : Gr w w') (hb : b < w.heap.size) (v : Value) : Gr (w.setCell ⟨b, 1, none⟩ v) (w'.setCell ⟨b, 1, none⟩ v) := by
  have h := hg.below
  refine .of_below ⟨h.os, h.tape, h.output, by rw [size_set, size_set]; exact h.size, fun k hk => ?_⟩
  rw [size_set] at hk
  have := h.block k hk
  simp only [World.setCell, Array.getElem?_modify, this]
theorem Mv.trans {w w1 w2 : World} {b len : Nat} (h : Mv b len w w1) (hb : b < w.heap.size) (k : Mv b len w1 w2) : Mv b len w w2 := by
  obtain ⟨p, h0, h1, hg⟩ := h
  obtain ⟨q, k0, k1, kg⟩ := k
  refine ⟨q, k0, k1, ?_⟩
  have := gr_setCell hg (by rw [size_set]; exact hb) (.int .i64 q)
  rw [setCell_setCell] at this
  exact this.trans kg
theorem Mv.gr {w w1 w2 : World} {b len : Nat} (h : Mv b len w w1) (k : Gr w1 w2) : Mv b len w w2 := by
  obtain ⟨p, h0, h1, hg⟩ := h
  exact ⟨p, h0, h1, hg.trans k⟩
theorem Mv.alloc {w w1 : World} {b len : Nat} (o : Obj) (h : Mv b len w w1) : Mv b len w (w1.alloc o) := h.gr ((Gr.refl _).alloc o)
theorem Mv.setc {w w1 : World} {b len B o : Nat} {v : Value} (h : Mv b len w w1) (hB : w.heap.size ≤ B) : Mv b len w (w1.setCell ⟨B, o, none⟩ v) := by
  obtain ⟨p, h0, h1, hg⟩ := h
  exact ⟨p, h0, h1, hg.setCell (a := ⟨B, o, none⟩) (by rw [size_set]; exact hB) v⟩
theorem Mv.size {w w1 : World} {b len : Nat} (h : Mv b len w w1) : w.heap.size ≤ w1.heap.size := by
  obtain ⟨p, h0, h1, hg⟩ := h
  have := hg.size; rwa [size_set] at this
theorem Mv.block {w w1 : World} {b len k : Nat} (h : Mv b len w w1) (hk : k < w.heap.size) (hb : k ≠ b) : w1.heap[k]? = w.heap[k]? := by
  obtain ⟨p, h0, h1, hg⟩ := h
  rw [hg.below.block k (by rw [size_set]; exact hk)]
  simp [World.setCell, Array.getElem?_modify, Ne.symm hb]
theorem Mv.row {w w1 : World} {b len B T : Nat} {vs : List Value} (h : Mv b len w w1) (r : Row w B T vs) (hb : B ≠ b) : Row w1 B T vs := (h.block r.has hb).trans r
def ReadsM (b len : Nat) (w : World) (S : Int → Prop) (e : Ending) (w' : World) : Prop := ∃ x, e = .returned (.int .i64 x) ∧ S x ∧ Mv b len w w'
theorem Reads.m {b len : Nat} {w : World} {S : Int → Prop} {e : Ending} {w' : World} (h : Reads w b len S e w') : ReadsM b len w S e w' := by
  obtain ⟨x, p, e, hs, h0, h1, hg⟩ := h
  exact ⟨x, e, hs, p, h0, h1, hg⟩
theorem nM_any (w : World) (b len : Nat) (n : Int) (h : Tp w b len) (hn : 1 ≤ n) (hn1 : n ≤ 9223372036854775807) :
    Calls Tryz.prog 14 #[.pointer (some ⟨b, 0, none⟩), .int .i64 n] w (ReadsM b len w (InTo 0 (n - 1))) :=
  h.elim fun p h => (n_any w b len p n h hn hn1).mono fun _ _ q => q.m
theorem rangeM_any (w : World) (b len : Nat) (lo hi : Int) (h : Tp w b len) (hl : -1000 ≤ lo) (hh : lo ≤ hi) (hh1 : hi ≤ 1000000) :
    Calls Tryz.prog 30 #[.pointer (some ⟨b, 0, none⟩), .int .i64 lo, .int .i64 hi] w (ReadsM b len w (InTo lo hi)) := by
  have H := Lib.hid h
  clear h
  go_enter Tryz.func30, Tryz.ntmps30
  go_wp2_with fail
  refine (nM_any _ b len _ H.out (by omega) (by omega)).mono ?_
  rintro e w' ⟨x, rfl, hx, hm⟩
  have hx0 := hx.1
  have hx1 := hx.2
  have M := Lib.hid hm
  clear hm hx
  go_wp2_with fail
  go_ret
  exact ⟨lo + x, rfl, ⟨by omega, by omega⟩, M.out⟩
theorem Mv.out {w W w' : World} {b len : Nat} (hg : Gr w W) (h : Mv b len W w') (hb : w.heap.size ≤ b) : Gr w w' := by
  obtain ⟨p, h0, h1, g⟩ := h
  exact (hg.setc hb).trans g
end Go.Proofs.YtbpkndiecomggaaGreatDoor
/-! Rows of cells of the call's own, with spare room, beside a tape that moves; what is appended and where it lies. Out of XRow, XMk, XMkA, XRox (wip/tools/own.py). -/
set_option linter.unusedVariables false
set_option linter.unusedSimpArgs false
namespace Go.Proofs.YtbpkndiecomggaaGreatDoor
open Go.RowKit
def nums (vs : List Int) : List Value := vs.map (Value.int .i64)
theorem nums_set (vs : List Int) (k : Nat) (b : Int) : (nums vs).set k (.int .i64 b) = nums (vs.set k b) := by simp [nums, List.map_set]
theorem Row.iat {w : World} {B T : Nat} {vs : List Int} (h : Row w B T (nums vs)) (k : Nat) (hk : k < vs.length) : w.cell? ⟨B, k, none⟩ = some (.int .i64 vs[k]) := by
  rw [h.cell k (by simpa [nums] using hk)]; simp [nums]
theorem Row.iset {w : World} {B T : Nat} {vs : List Int} (h : Row w B T (nums vs)) (k : Nat) (b : Int) : Row (w.setCell ⟨B, k, none⟩ (.int .i64 b)) B T (nums (vs.set k b)) := by
  rw [← nums_set]; exact h.set k _
def RowS (w : World) (B T : Nat) (vs : List Value) : Prop := ∃ rest, Row w B T (vs ++ rest)
theorem Row.s {w : World} {B T : Nat} {vs : List Value} (h : Row w B T vs) : RowS w B T vs := ⟨[], by simpa using h⟩
theorem RowS.cell {w : World} {B T : Nat} {vs : List Value} (h : RowS w B T vs) (k : Nat) (hk : k < vs.length) : w.cell? ⟨B, k, none⟩ = some vs[k] := by
  obtain ⟨rest, h⟩ := h
  rw [h.cell k (by simp; omega), List.getElem_append_left hk]
theorem RowS.iat {w : World} {B T : Nat} {vs : List Int} (h : RowS w B T (nums vs)) (k : Nat) (hk : k < vs.length) : w.cell? ⟨B, k, none⟩ = some (.int .i64 vs[k]) := by
  rw [h.cell k (by simpa [nums] using hk)]; simp [nums]
theorem RowS.slI {w : World} {B T : Nat} {vs : List Int} (h : RowS w B T (nums vs)) (hw : ∀ k (hk : k < vs.length), Wide vs[k]) : SlOf 1 RI w (some ⟨B, 0, none⟩) vs := fun k hk => ⟨B, 0, rfl, by rw [Nat.mul_one, Nat.zero_add]; exact ⟨h.iat k hk, hw k hk⟩⟩
theorem nums_one (vs : List Int) : ∀ u ∈ nums vs, u.oneCell' = true := by
  intro u hu
  obtain ⟨x, _, rfl⟩ := List.mem_map.1 hu
  rfl
def Own1 (base : Nat) (w : World) (T : Nat) (vs : List Value) (a : Option Addr) : Prop := vs = [] ∨ ∃ B, a = some ⟨B, 0, none⟩ ∧ base ≤ B ∧ RowS w B T vs
theorem Gr.grown {w W w' : World} {row : Option Nat} (h : Gr w W) (hg : W.grownBy w' row) (hrow : ∀ k, row = some k → w.heap.size ≤ k) : Gr w w' := by
  have hb := h.below
  refine .of_below ⟨hg.os.trans hb.os, hg.tape.trans hb.tape, hg.output.trans hb.output, Nat.le_trans hb.size hg.size, fun k hk => ?_⟩
  rw [hg.block k (Nat.lt_of_lt_of_le hk hb.size) (fun e => by have := hrow k e.symm; omega)]
  exact hb.block k hk
theorem grownBy_set (w : World) (B o : Nat) (v : Value) : w.grownBy (w.setCell ⟨B, o, none⟩ v) (some B) :=
  ⟨rfl, rfl, rfl, by simp [World.setCell], fun k _ hk => by simp only [World.setCell]; rw [Array.getElem?_modify, if_neg (fun e => hk (by rw [e]))]⟩
theorem flat_at {α : Type} (f : α → List Value) (n : Nat) (hf : ∀ x, (f x).length = n) (ts : List α) (k j : Nat) (hk : k < ts.length) (hj : j < n) : (ts.flatMap f)[k * n + j]? = (f ts[k])[j]? := by
  induction ts generalizing k with
  | nil => simp at hk
  | cons x ts ih =>
    rw [List.flatMap_cons]
    cases k with
    | zero => rw [List.getElem?_append_left (by rw [hf]; omega)]; simp
    | succ k =>
      rw [List.getElem?_append_right (by rw [hf, Nat.add_mul]; omega), hf, show (k + 1) * n + j - n = k * n + j by rw [Nat.add_mul]; omega, ih k (by simpa using hk)]
      simp
theorem flat_len {α : Type} (f : α → List Value) (n : Nat) (hf : ∀ x, (f x).length = n) (ts : List α) : (ts.flatMap f).length = ts.length * n := by
  induction ts with
  | nil => simp
  | cons x ts ih => rw [List.flatMap_cons, List.length_append, hf, ih, List.length_cons, Nat.add_mul]; omega
theorem owns_cell {w : World} {base e size n : Nat} {v : Value} {xs : List Value} (h : w.ownsRow base e size v n xs) (hn : 0 < n) : ∃ g cap, v = .slice (some ⟨g, 0, none⟩) n cap ∧ n ≤ cap ∧ base ≤ g ∧ ∀ j, j < n * size → w.cell? ⟨g, j, none⟩ = xs[j]? := by
  obtain ⟨h0, ⟨rfl, h1⟩ | ⟨g, cap, cur, rfl, hb, hg, hn', _, hs, ht⟩⟩ := h
  · omega
  · refine ⟨g, cap, rfl, hn', hb, fun j hj => ?_⟩
    rw [← ht, List.getElem?_take, if_pos hj]
    simp [World.cell?, hg]
theorem owns_slice {w : World} {base e size n : Nat} {v : Value} {xs : List Value} (h : w.ownsRow base e size v n xs) : ∃ a c, v = .slice a n c := by
  rcases h.2 with ⟨rfl, rfl⟩ | ⟨g, cap, cur, rfl, _⟩
  · exact ⟨none, 0, rfl⟩
  · exact ⟨_, cap, rfl⟩
theorem Gr.owns {w w1 : World} {base e size n : Nat} {v : Value} {xs : List Value} (r : w.ownsRow base e size v n xs) (hg : Gr w w1) : w1.ownsRow base e size v n xs := by
  refine ⟨r.1, ?_⟩
  rcases r.2 with r | ⟨g, cap, cur, e, h1, h2, h3⟩
  · exact .inl r
  · exact .inr ⟨g, cap, cur, e, h1, (hg.below.block g (Array.getElem?_eq_some_iff.1 h2).1).trans h2, h3⟩
section
open Classical
theorem Mv.owns {w w1 : World} {b len base e size n : Nat} {v : Value} {xs : List Value} (h : Mv b len w w1) (r : w.ownsRow base e size v n xs) (hb : b < base) : w1.ownsRow base e size v n xs := by
  refine ⟨r.1, ?_⟩
  rcases r.2 with r | ⟨g, cap, cur, e, h1, h2, h3⟩
  · exact .inl r
  · exact .inr ⟨g, cap, cur, e, h1, (h.block (Array.getElem?_eq_some_iff.1 h2).1 (by omega)).trans h2, h3⟩
def Hold (b : Nat) (w : World) (Q : World → Prop) : Prop := ∀ p : Int, Q (w.setCell ⟨b, 1, none⟩ (.int .i64 p))
def GrMono (Q : World → Prop) : Prop := ∀ w w', Gr w w' → Q w → Q w'
theorem pickM_any (w : World) (b len : Nat) (h : Tp w b len) (eb n : Nat) (S : Int → Prop) (hn : 1 ≤ n) (hn1 : n ≤ 1000) (hne : eb ≠ b) (hel : ∀ k, k < n → ∃ x, w.cell? ⟨eb, k, none⟩ = some (.int .i64 x) ∧ S x) :
    Calls Tryz.prog 38 #[.pointer (some ⟨b, 0, none⟩), .slice (some ⟨eb, 0, none⟩) n n] w (ReadsM b len w S) :=
  h.elim fun p h => (pick_any w b len p h eb n S hn hn1 hne hel).mono fun _ _ q => q.m
theorem Mv.grown {w W w1 : World} {b len : Nat} {row : Option Nat} (h : Mv b len w W) (hg : W.grownBy w1 row) (hrow : ∀ k, row = some k → w.heap.size ≤ k) : Mv b len w w1 := by
  obtain ⟨p, h0, h1, g⟩ := h
  exact ⟨p, h0, h1, g.grown hg (fun k e => by rw [size_set]; exact hrow k e)⟩
theorem pickNew_any (w : World) (b len : Nat) (h : Tp w b len) (eb : Nat) (heb : eb = w.heap.size) (arr : Array Value) (n : Nat) (xs : List Int) (S : Int → Prop) (ha : arr.toList = nums xs) (hn : xs.length = n) (hn1 : 1 ≤ n) (hn2 : n ≤ 1000) (hS : ∀ x ∈ xs, S x) :
    Calls Tryz.prog 38 #[.pointer (some ⟨b, 0, none⟩), .slice (some ⟨eb, 0, none⟩) n n] (w.alloc (.cells arr 3)) (ReadsM b len w S) := by
  subst heb
  refine (pickM_any (w.alloc (.cells arr 3)) b len (h.gr ((Gr.refl _).alloc _)) w.heap.size n S hn1 hn2 (by have := h.has; omega) (fun k hk => ?_)).mono ?_
  · have q := Row.new w arr 3
    rw [ha] at q
    exact ⟨_, q.iat k (by omega), hS _ (List.getElem_mem _)⟩
  · rintro e w' ⟨x, rfl, hs, hm⟩
    exact ⟨x, rfl, hs, (Mv.of_gr h ((Gr.refl _).alloc _)).trans h.has hm⟩
end
def Gets (w : World) (A : Option Addr) (m size : Nat) (news : List Value) : Prop := news.length = m * size ∧ (m ≠ 0 → ∃ ad, A = some ad ∧ ∀ j u, news[j]? = some u → w.cell? (ad.add j) = some u)
section
variable {P : Program} (w : World)
theorem grownBy_same (row : Option Nat) : w.grownBy w row := World.grownBy.refl w row
theorem run_append_gets (base : Nat) (t ty e : TypeId) (i : TypeInfo) (z : Value) (size bytes : Nat) (ht : P.underlying t = some (.slice e)) (hi : P.info? e = some i) (hz : i.zero = some z) (hs : i.size = size) (hb : i.bytes = bytes) (hzs : z.cells.size = size) (h0 : 0 < size)
    (v : Value) (n : Nat) (xs : List Value) (hown : w.ownsRow base e size v n xs) (A : Option Addr) (m c : Nat) (news : List Value) (hg : Gets w A m size news) (h1 : ∀ u ∈ news, u.oneCell' = true) (h63 : n + m ≤ maxLen) (hbytes : (n + m) * bytes ≤ 140737488355328) (hbase : base ≤ w.heap.size) :
    ∃ v' w', (Builtin.append_ #[t, t] ty #[v, .slice A m c]).run P w = .ok v' w' ∧ w'.ownsRow base e size v' (n + m) (xs ++ news) ∧ w.grownBy w' v.ownBlock ∧ (v'.ownBlock = v.ownBlock ∨ v'.ownBlock = some w.heap.size) := by
  cases A with
  | some ad =>
    have hc : ∀ j u, news[j]? = some u → w.cell? (ad.add j) = some u := by
      by_cases hm : m = 0
      · subst hm
        have : news = [] := List.eq_nil_of_length_eq_zero (by have := hg.1; omega)
        subst this
        intro j u hu; simp at hu
      · obtain ⟨_, e, q⟩ := hg.2 hm
        cases e
        exact q
    obtain ⟨v', w', q1, q2, q3, _, q5⟩ := run_append_own_at (P := P) w base t ty e i z size bytes ht hi hz hs hb hzs h0 v n xs hown ad m c news hg.1 hc h1 h63 hbytes hbase
    exact ⟨v', w', q1, q2, q3, q5⟩
  | none =>
    have hm : m = 0 := Classical.byContradiction fun q => by obtain ⟨_, e, _⟩ := hg.2 q; cases e
    subst hm
    have : news = [] := List.eq_nil_of_length_eq_zero (by have := hg.1; omega)
    subst this
    refine ⟨v, w, ?_, by simpa using hown, grownBy_same w _, .inl rfl⟩
    obtain ⟨_, ⟨rfl, rfl⟩ | ⟨g, cap, cur, rfl, _, _, hnc, _⟩⟩ := hown
    · simp [Builtin.append_, run_underlying ht, sizeOf, typeInfo, hi, Builtin.lenOf, Builtin.firstCells]
    · simp [Builtin.append_, run_underlying ht, sizeOf, typeInfo, hi, Builtin.lenOf, Builtin.firstCells, hnc, storeCells]
theorem wp_append_gets {o : Oper} {a : Act} {K : Act → World → Prop} {Q : Exit → Act → World → Prop} (s x : Operand) (t : TypeId)
    (ho : o.op = .call { callee := .builtin .append, args := #[s, x], argTypes := #[t, t] }) (base : Nat) (e : TypeId) (i : TypeInfo) (z : Value) (size bytes : Nat) (ht : P.underlying t = some (.slice e)) (hi : P.info? e = some i) (hz : i.zero = some z) (hs : i.size = size) (hb : i.bytes = bytes) (hzs : z.cells.size = size) (h0 : 0 < size)
    (v : Value) (n : Nat) (xs : List Value) (hv : a.eval s = v) (hown : w.ownsRow base e size v n xs) (A : Option Addr) (m c : Nat) (news : List Value) (hx : a.eval x = .slice A m c) (hg : Gets w A m size news) (h1 : ∀ u ∈ news, u.oneCell' = true) (h63 : n + m ≤ maxLen) (hbytes : (n + m) * bytes ≤ 140737488355328) (hbase : base ≤ w.heap.size)
    (h : ∀ v' w', w'.ownsRow base e size v' (n + m) (xs ++ news) → w.grownBy w' v.ownBlock → (v'.ownBlock = v.ownBlock ∨ v'.ownBlock = some w.heap.size) → K (a.put o.dst v') w') : o.wp P a w K Q := by
  obtain ⟨v', w', q1, q2, q3, q4⟩ := run_append_gets (P := P) w base t o.type e i z size bytes ht hi hz hs hb hzs h0 v n xs hown A m c news hg h1 h63 hbytes hbase
  unfold Oper.wp execOp
  simp only [ho, resolve, invoke, builtin, Sem.run_bind, Sem.run_pure, Result.andThen_ok, List.map_toArray, List.map_cons, List.map_nil, hv, hx, q1]
  exact h v' w' q2 q3 q4
theorem wpList_append_gets {ops : Array Oper} {rest : List Oper} {o : Oper} {a : Act} {Q : Exit → Act → World → Prop} (hgd : o.guard = none) (s x : Operand) (t : TypeId)
    (ho : o.op = .call { callee := .builtin .append, args := #[s, x], argTypes := #[t, t] }) (base : Nat) (e : TypeId) (i : TypeInfo) (z : Value) (size bytes : Nat) (ht : P.underlying t = some (.slice e)) (hi : P.info? e = some i) (hz : i.zero = some z) (hs : i.size = size) (hb : i.bytes = bytes) (hzs : z.cells.size = size) (h0 : 0 < size)
    (v : Value) (n : Nat) (xs : List Value) (hv : a.eval s = v) (hown : w.ownsRow base e size v n xs) (A : Option Addr) (m c : Nat) (news : List Value) (hx : a.eval x = .slice A m c) (hg : Gets w A m size news) (h1 : ∀ u ∈ news, u.oneCell' = true) (h63 : n + m ≤ maxLen) (hbytes : (n + m) * bytes ≤ 140737488355328) (hbase : base ≤ w.heap.size)
    (h : ∀ v' w', w'.ownsRow base e size v' (n + m) (xs ++ news) → w.grownBy w' v.ownBlock → (v'.ownBlock = v.ownBlock ∨ v'.ownBlock = some w.heap.size) → wpList P ops Q rest (a.put o.dst v') w') : wpList P ops Q (o :: rest) a w :=
  wpList_plain hgd fun _ hK => wp_append_gets w s x t ho base e i z size bytes ht hi hz hs hb hzs h0 v n xs hv hown A m c news hx hg h1 h63 hbytes hbase fun v' w' q1 q2 q3 => hK _ _ (h v' w' q1 q2 q3)
theorem step_append_gets {ops : Array Oper} {o : Oper} {a : Act} {K : Act → World → Prop} {Q : Exit → Act → World → Prop} {E : Prop} (hgd : o.guard = none) (s x : Operand) (t : TypeId)
    (ho : o.op = .call { callee := .builtin .append, args := #[s, x], argTypes := #[t, t] }) (base : Nat) (e : TypeId) (i : TypeInfo) (z : Value) (size bytes : Nat) (ht : P.underlying t = some (.slice e)) (hi : P.info? e = some i) (hz : i.zero = some z) (hs : i.size = size) (hb : i.bytes = bytes) (hzs : z.cells.size = size) (h0 : 0 < size)
    (v : Value) (n : Nat) (xs : List Value) (hv : a.eval s = v) (hown : w.ownsRow base e size v n xs) (A : Option Addr) (m c : Nat) (news : List Value) (hx : a.eval x = .slice A m c) (hg : Gets w A m size news) (h1 : ∀ u ∈ news, u.oneCell' = true) (h63 : n + m ≤ maxLen) (hbytes : (n + m) * bytes ≤ 140737488355328) (hbase : base ≤ w.heap.size)
    (h : ∀ v' w', w'.ownsRow base e size v' (n + m) (xs ++ news) → w.grownBy w' v.ownBlock → (v'.ownBlock = v.ownBlock ∨ v'.ownBlock = some w.heap.size) → K (a.put o.dst v') w') :
    if Region.wanted o (yielded ops a.tmps) = true then Oper.wp P o a w K Q else E := by
  rw [if_pos (by simp [Region.wanted, hgd])]
  exact wp_append_gets w s x t ho base e i z size bytes ht hi hz hs hb hzs h0 v n xs hv hown A m c news hx hg h1 h63 hbytes hbase h
end
theorem owns_low {w : World} {base base' e size n : Nat} {v : Value} {xs : List Value} (h : w.ownsRow base e size v n xs) (hb : base' ≤ base) : w.ownsRow base' e size v n xs := by
  refine ⟨h.1, ?_⟩
  rcases h.2 with q | ⟨g, cap, cur, e, h1, h2⟩
  · exact .inl q
  · exact .inr ⟨g, cap, cur, e, by omega, h2⟩
theorem owns_block {w : World} {base e size n : Nat} {v : Value} {xs : List Value} (h : w.ownsRow base e size v n xs) : ∀ g, v.ownBlock = some g → base ≤ g ∧ g < w.heap.size := by
  intro g hg
  rcases h.2 with ⟨rfl, _⟩ | ⟨g', cap, cur, rfl, h1, h2, _⟩
  · cases hg
  · simp [Value.ownBlock] at hg
    subst hg
    exact ⟨h1, (Array.getElem?_eq_some_iff.1 h2).1⟩
end Go.Proofs.YtbpkndiecomggaaGreatDoor
/-! The code of one block or region of a function, found by its number (as XAnH, by itself). -/
set_option linter.unusedVariables false
set_option linter.unusedSimpArgs false
namespace Go.Proofs.YtbpkndiecomggaaGreatDoor
open Go.RowKit
end Go.Proofs.YtbpkndiecomggaaGreatDoor

set_option linter.unusedVariables false
set_option linter.unusedSimpArgs false
namespace Go.Proofs.YtbpkndiecomggaaGreatDoor
open Go.RowKit
structure Rul where
  name : St
  req : Bool
  kind : Int
  low : Int
  high : Int
  count : Int
  words : List St
  deriving DecidableEq
structure Sch where
  comp : St
  closed : Bool
  rules : List Rul
  deriving DecidableEq
instance : Inhabited Rul := ⟨⟨[], false, 0, 0, 0, 0, []⟩⟩
instance : Inhabited Sch := ⟨⟨[], false, []⟩⟩
def RRul (w : World) (b o : Nat) (r : Rul) : Prop := RS w b o r.name ∧ RB w b (o + 1) r.req ∧ RI w b (o + 2) r.kind ∧ RI w b (o + 3) r.low ∧ RI w b (o + 4) r.high ∧ RI w b (o + 5) r.count ∧ RSl 1 RS w b (o + 6) r.words
def RSch (w : World) (b o : Nat) (s : Sch) : Prop := RS w b o s.comp ∧ RB w b (o + 1) s.closed ∧ RSl 7 RRul w b (o + 2) s.rules
theorem RRul.mono : Mono RRul := fun _ _ _ _ _ hg h => ⟨RS.mono _ _ _ _ _ hg h.1, RB.mono _ _ _ _ _ hg h.2.1, RI.mono _ _ _ _ _ hg h.2.2.1, RI.mono _ _ _ _ _ hg h.2.2.2.1, RI.mono _ _ _ _ _ hg h.2.2.2.2.1, RI.mono _ _ _ _ _ hg h.2.2.2.2.2.1, RSl.mono RS.mono _ _ _ _ _ hg h.2.2.2.2.2.2⟩
theorem RSch.mono : Mono RSch := fun _ _ _ _ _ hg h => ⟨RS.mono _ _ _ _ _ hg h.1, RB.mono _ _ _ _ _ hg h.2.1, RSl.mono RRul.mono _ _ _ _ _ hg h.2.2⟩
/-! The check. -/
def visP (s : St) : Bool := s.all (fun c => decide (33 ≤ c.toNat) && decide (c.toNat ≤ 126)) && decide (1 ≤ s.length) && decide (s.length ≤ 31)
def cntd (k : Int) : Bool := decide (k = 3) || decide (k = 5) || decide (k = 6)
def ruleP (r : Rul) : Bool :=
  propOk r.name && (decide (1 ≤ r.kind) && decide (r.kind ≤ 6)) &&
  (if r.kind = 3 then decide (0 ≤ r.low) && decide (r.high ≤ 4294967295) && decide (r.low ≤ r.high) else decide (r.low = 0) && decide (r.high = 0)) &&
  (decide (0 ≤ r.count) && decide (r.count ≤ 64)) && (decide (r.count = 0) || cntd r.kind) &&
  (if r.kind = 4 then decide (1 ≤ r.words.length) && decide (r.words.length ≤ 16) else decide (r.words.length = 0)) && r.words.all visP
def ascN : List St → Bool
  | [] => true
  | [_] => true
  | a :: b :: l => ltS a b && ascN (b :: l)
def chkSch (l : List Sch) : Int :=
  if 24 < l.length ∨ l.any (fun s => decide (16 < s.rules.length)) = true then 3 else
  if l.any (fun s => !visP s.comp || s.rules.any (fun r => !ruleP r)) = true then 1 else
  if l.any (fun s => !ascN (s.rules.map Rul.name)) = true then 12 else
  if ascN (l.map Sch.comp) = true then 0 else 12
/-! The text. -/
/-! SchemaLimits. -/
end Go.Proofs.YtbpkndiecomggaaGreatDoor

set_option linter.unusedVariables false
set_option linter.unusedSimpArgs false
namespace Go.Proofs.YtbpkndiecomggaaGreatDoor
open Go.RowKit
open Classical
theorem within_any (n lo hi : Int) (w : World) :
    Calls Tryz.prog 104 #[.int .i64 n, .int .i64 lo, .int .i64 hi] w fun e w' => e = .returned (.bool (decide (lo ≤ n) && decide (n ≤ hi))) ∧ w = w' := by
  by_cases h1 : lo ≤ n
  · have h2 : decide (lo ≤ n) = true := decide_eq_true h1
    go_enter Tryz.func104, Tryz.ntmps104
    go_wp2
    all_goals go_ret
    all_goals exact ⟨ret_bool (by rw [h2]; simp), rfl⟩
  · have h2 : decide (lo ≤ n) = false := decide_eq_false h1
    go_enter Tryz.func104, Tryz.ntmps104
    go_wp2
    all_goals go_ret
    all_goals exact ⟨ret_bool (by simp [h2]), rfl⟩
def visC (c : UInt8) : Bool := decide (33 ≤ c.toNat) && decide (c.toNat ≤ 126)
theorem vis_any (s : St) (w : World) (hf : s.length ≤ 1000000) :
    Calls Tryz.prog 75 #[.string (bs s)] w fun e w' => e = .returned (.bool (visP s)) ∧ w = w' := by
  have hv : visP s = (s.all visC && decide (1 ≤ s.length) && decide (s.length ≤ 31)) := rfl
  have HV := Lib.hid hv
  clear hv
  go_enter Tryz.func75, Tryz.ntmps75
  go_wp2_with fail
  go_loop [6] (fun i => ∃ k : Nat, k ≤ s.length ∧ i = .int .i64 k ∧ (s.take k).all visC = true) (fun i => s.length - (intOf i).toNat)
  case atStart => exact ⟨0, Nat.zero_le _, rfl, rfl⟩
  case round =>
    obtain ⟨k, hk, rfl, hall⟩ := hrel
    have HA := Lib.hid hall
    clear hall
    by_cases hlt : k < s.length
    · obtain ⟨c, hc⟩ : ∃ c, s[k] = c := ⟨_, rfl⟩
      have HC := Lib.hid hc
      have hw : (decide ((33 : Int) ≤ ((s[k].toNat : Nat) : Int)) && decide (((s[k].toNat : Nat) : Int) ≤ 126)) = visC c := by
        rw [hc]; unfold visC
        congr 1 <;> apply decide_eq_decide.2 <;> omega
      have hwr : wrap64 ((s[k].toNat : Nat) : Int) = ((s[k].toNat : Nat) : Int) := by have := s[k].toNat_lt; unfold wrap64; omega
      have HW : Hid (∀ W, Calls Tryz.prog 104 #[.int .i64 ((s[k].toNat : Nat) : Int), .int .i64 33, .int .i64 126] W fun e w' => e = .returned (.bool (visC c)) ∧ W = w') := Lib.hid (fun W => by rw [← hw]; exact within_any _ _ _ _)
      clear hc hw
      by_cases hq : visC c = true
      · go_wp2_with (go_at_call 104; refine (HW.out _).mono ?_; rw [hq]; rintro e w' ⟨rfl, rfl⟩)
        go_round
        case rel => exact ⟨k + 1, by omega, by go_num, by rw [List.take_succ_eq_append_getElem hlt, List.all_append, HA.out, HC.out]; simp [hq]⟩
        case measure => simp [intOf]; omega
      · rw [Bool.not_eq_true] at hq
        go_wp2_with (go_at_call 104; refine (HW.out _).mono ?_; rw [hq]; rintro e w' ⟨rfl, rfl⟩)
        go_ret
        have e : s.all visC = false := by rw [List.all_eq_false]; exact ⟨_, List.getElem_mem hlt, by rw [HC.out]; simp [hq]⟩
        exact ⟨ret_bool (by rw [HV.out, e]; rfl), rfl⟩
    · have e : s.all visC = true := by rw [← HA.out, List.take_of_length_le (by omega)]
      have E := Lib.hid e
      clear e
      go_wp2_with (go_at_call 104; refine (within_any _ _ _ _).mono ?_; rintro e w' ⟨rfl, rfl⟩)
      go_ret
      exact ⟨ret_bool (by
        rw [HV.out, E.out, Bool.true_and]
        congr 1 <;> apply decide_eq_decide.2 <;> omega), rfl⟩
end Go.Proofs.YtbpkndiecomggaaGreatDoor

set_option linter.unusedVariables false
set_option linter.unusedSimpArgs false
namespace Go.Proofs.YtbpkndiecomggaaGreatDoor
open Go.RowKit
section
variable {f : Nat} {text ln rs : St} {n : Nat} {out : List Sch} {hd : Sch} {ru : Rul} {en : Bool}
end
end Go.Proofs.YtbpkndiecomggaaGreatDoor
