/- Lemmas and contracts for the proof of LinkConsumers (several texts in one, printed by wip/tools/pack.py): LoC. -/
import Derived.Test.YtdjhnfopdlgliaaGreatLc1pb
set_option maxRecDepth 100000
set_option maxHeartbeats 16000000
set_option linter.unusedVariables false
set_option linter.unusedSimpArgs false
namespace Go.Proofs.YtdjhnfopdlgliaaGreat
open Go.RowKit
open Classical
def cutP (p : Prp) : Prp := ⟨p.name, if p.val.length ≤ 256 then p.val else []⟩
def cutN (n : Nod) : Nod := { n with props := n.props.map cutP }
def cutT (ts : Tr) : Tr := ts.map cutN
theorem cut_nd (ts : Tr) (k : Nat) : nd (cutT ts) k = cutN (nd ts k) := by
  unfold nd cutT
  rw [List.getD_eq_getElem?_getD, List.getD_eq_getElem?_getD, List.getElem?_map]
  cases ts[k]? with
  | none => rfl
  | some n => rfl
theorem cut_len (ts : Tr) : (cutT ts).length = ts.length := by unfold cutT; rw [List.length_map]
theorem cut_set (ts : Tr) (k : Nat) (ps : List Prp) : cutT (setN ts k ps) = setN (cutT ts) k (ps.map cutP) := by
  unfold setN
  rw [cut_nd]
  unfold cutT
  rw [List.map_set]
  rfl
theorem cut_put : ∀ (l : List Prp) (p : Prp), (putP l p).map cutP = putP (l.map cutP) (cutP p)
  | [], p => rfl
  | y :: l, p => by
    rw [List.map_cons, putP_cons, putP_cons]
    have e1 : (cutP y).name = y.name := rfl
    have e2 : (cutP p).name = p.name := rfl
    rw [e1, e2]
    split
    · rw [List.map_cons, cut_put l p]
    · split <;> rfl
theorem cut_small {p : Prp} (h : p.val.length ≤ 256) : cutP p = p := by unfold cutP; rw [if_pos h]
theorem cutP_len (p : Prp) : (cutP p).val.length ≤ 256 := by
  unfold cutP
  dsimp only
  split
  · assumption
  · simp
structure VL (ts : Tr) : Prop where
  v : VT (cutT ts)
  len : ∀ n ∈ ts, ∀ p ∈ n.props, p.val.length ≤ 4096
theorem cutT_id {ts : Tr} (h : ∀ n ∈ ts, ∀ p ∈ n.props, p.val.length ≤ 256) : cutT ts = ts := by
  unfold cutT
  conv => rhs; rw [← List.map_id ts]
  apply List.map_congr_left
  intro n hn
  unfold cutN
  have : n.props.map cutP = n.props := by
    conv => rhs; rw [← List.map_id n.props]
    apply List.map_congr_left
    intro p hp
    exact cut_small (h n hn p hp)
  rw [this]
  rfl
theorem VT.vals {ts : Tr} (h : VT ts) : ∀ n ∈ ts, ∀ p ∈ n.props, p.val.length ≤ 256 := fun n hn p hp => by
  obtain ⟨k, hk, rfl⟩ := List.getElem_of_mem hn
  have q := (h.prp k hk).mem
  rw [nd_get hk] at q
  exact (q p hp).2
theorem VL.of {ts : Tr} (h : VT ts) : VL ts := ⟨by rw [cutT_id h.vals]; exact h, fun n hn p hp => by have := h.vals n hn p hp; omega⟩
theorem VL.pos {ts : Tr} (h : VL ts) : 0 < ts.length := by have := h.v.pos; rwa [cut_len] at this
theorem VL.few {ts : Tr} (h : VL ts) : ts.length ≤ 120 := by have := h.v.few; rwa [cut_len] at this
theorem VL.asc {ts : Tr} (h : VL ts) {k : Nat} (hk : k < ts.length) : (nd ts k).props.length ≤ 12 ∧ ∀ p ∈ (nd ts k).props, p.name.length ≤ 31 := by
  have q := h.v.prp k (by rw [cut_len]; exact hk)
  rw [cut_nd] at q
  have e : (cutN (nd ts k)).props = (nd ts k).props.map cutP := rfl
  rw [e] at q
  refine ⟨by have := q.len; rwa [List.length_map] at this, fun p hp => ?_⟩
  exact (q.prop (cutP p) (List.mem_map_of_mem hp)).2
theorem VL.vals {ts : Tr} (h : VL ts) {k : Nat} (hk : k < ts.length) : ∀ p ∈ (nd ts k).props, p.val.length ≤ 4096 := fun p hp => h.len (nd ts k) (by rw [nd_get hk]; exact List.getElem_mem hk) p hp
theorem VL.set {ts : Tr} (h : VL ts) {k : Nat} (hk : k < ts.length) {ps : List Prp} (hp : PV (ps.map cutP)) (hl : ∀ p ∈ ps, p.val.length ≤ 4096) : VL (setN ts k ps) := by
  refine ⟨by rw [cut_set]; exact VT_set h.v (by rw [cut_len]; exact hk) hp, fun n hn => ?_⟩
  unfold setN at hn
  rcases List.mem_or_eq_of_mem_set hn with q | q
  · exact h.len n q
  · subst q; exact hl
theorem VL.pv {ts : Tr} (h : VL ts) {k : Nat} (hk : k < ts.length) : PV ((nd ts k).props.map cutP) := by
  have q := h.v.prp k (by rw [cut_len]; exact hk)
  rw [cut_nd] at q
  exact q
theorem VL.put {ts : Tr} (h : VL ts) {k : Nat} (hk : k < ts.length) {nm val : St} (hn : nm ∈ namesV) (hv : val.length ≤ 4096) : VL (setN ts k (putP (nd ts k).props ⟨nm, val⟩)) := by
  refine h.set hk ?_ (fun p hp => ?_)
  · rw [cut_put]
    exact PV_put (h.pv hk) hn (cutP_len _)
  · rcases mem_putP hp with q | q
    · subst q; exact hv
    · exact h.vals hk p q
theorem VL.fil {ts : Tr} (h : VL ts) {k : Nat} (hk : k < ts.length) (f : St → Bool) : VL (setN ts k ((nd ts k).props.filter (fun p => f p.name))) := by
  refine h.set hk ?_ (fun p hp => h.vals hk p (List.mem_filter.1 hp).1)
  have e : ((nd ts k).props.filter (fun p => f p.name)).map cutP = ((nd ts k).props.map cutP).filter (fun p => f p.name) := by
    rw [List.filter_map]
    rfl
  rw [e]
  have q := h.pv hk
  exact ⟨q.asc.sublist List.filter_sublist, fun p hp => q.mem p (List.mem_filter.1 hp).1⟩
theorem VL.sm {ts : Tr} (h : VL ts) {k : Nat} (hk : k < ts.length) : -1 ≤ (nd ts k).parent ∧ (nd ts k).parent ≤ 1000 ∧ (nd ts k).name.length ≤ 1000 := by
  have e1 : (nd (cutT ts) k).parent = (nd ts k).parent := by rw [cut_nd]; rfl
  have e2 : (nd (cutT ts) k).name = (nd ts k).name := by rw [cut_nd]; rfl
  by_cases h0 : k = 0
  · subst h0
    have := h.v.root
    rw [e1, e2] at this
    rw [this.1, this.2]
    simp
  · have hk2 : k < (cutT ts).length := by rw [cut_len]; exact hk
    have p1 := h.v.par (show 0 < k by omega) hk2
    have p2 := h.v.shp.par k (by omega) hk2
    have p3 := (h.v.name (show 0 < k by omega) hk2).2
    have p4 := h.few
    unfold nmT at p3
    rw [e2] at p3
    rw [e1] at p1
    omega
theorem VL.cases {ts : Tr} (h : VL ts) : VT ts ∨ (ts.any bigN = true ∧ chkT ts = 3) := by
  by_cases e : ∀ n ∈ ts, ∀ p ∈ n.props, p.val.length ≤ 256
  · left
    have := h.v
    rwa [cutT_id e] at this
  · right
    have hb : ts.any bigN = true := by
      rw [List.any_eq_true]
      refine Classical.byContradiction fun q => e fun n hn p hp => ?_
      refine Classical.byContradiction fun q2 => q ⟨n, hn, ?_⟩
      unfold bigN
      rw [Bool.or_eq_true, List.any_eq_true]
      exact .inr ⟨p, hp, by simpa using q2⟩
    refine ⟨hb, ?_⟩
    have h1 := h.pos
    have h2 := h.few
    unfold chkT
    rw [if_neg (by omega), if_pos hb]
end Go.Proofs.YtdjhnfopdlgliaaGreat
