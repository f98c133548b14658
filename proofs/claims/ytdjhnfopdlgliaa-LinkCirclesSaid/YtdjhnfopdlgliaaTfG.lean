/- Trees of the call's own read as nodes; what LinkCircles wants. -/
import Derived.Test.YtdjhnfopdlgliaaTfF
import Derived.Test.YtdjhnfopdlgliaaTfP
set_option linter.unusedVariables false
set_option linter.unusedSimpArgs false
namespace Go.Proofs.Ytdjhnfopdlgliaa
open Go.RowKit
open Classical

/-- The properties of a node lie in a row of the call's own. -/
def PO (base : Nat) (w : World) (t : NT) : Prop := w.ownsRow base 29 2 (.slice t.a t.n.props.length t.c) t.n.props.length (t.n.props.flatMap encPr)
theorem prps_of_owns {w : World} {base c : Nat} {a : Option Addr} {ps : List Prp} (h : w.ownsRow base 29 2 (.slice a ps.length c) ps.length (ps.flatMap encPr)) (hs : ∀ p ∈ ps, p.name.length ≤ 1000 ∧ p.val.length ≤ 1000) : ps.length ≤ c ∧ SlOf 2 RPrp w a ps := by
  rcases Nat.eq_zero_or_pos ps.length with e | e
  · exact ⟨by rw [e]; exact Nat.zero_le _, fun k hk => absurd hk (by omega)⟩
  · obtain ⟨g, cap, hv, hc, _, hcell⟩ := owns_cell h e
    injection hv with h1 h2 h3
    subst h1
    subst h3
    refine ⟨hc, fun k hk => ?_⟩
    have h2 : ∀ j, j < 2 → w.cell? ⟨g, k * 2 + j, none⟩ = (encPr ps[k])[j]? := fun j hj => by
      have e := flat_at encPr 2 (fun _ => rfl) ps k j hk hj
      rw [hcell _ (by omega), e]
    have hb := hs _ (List.getElem_mem hk)
    refine ⟨g, 0, rfl, ⟨?_, by omega⟩, ⟨?_, by omega⟩⟩
    · rw [Nat.zero_add]; exact h2 0 (by omega)
    · rw [Nat.zero_add]; exact h2 1 (by omega)
/-- All of a tree is short. -/
def smallN (n : Nod) : Bool := decide (-1 ≤ n.parent) && decide (n.parent ≤ 1000) && decide (n.name.length ≤ 1000) && decide (n.props.length ≤ 1000) && n.props.all (fun p => decide (p.name.length ≤ 1000) && decide (p.val.length ≤ 1000))
theorem small_of {n : Nod} (h : smallN n = true) : Wide n.parent ∧ n.name.length ≤ 1000 ∧ n.props.length ≤ 1000 ∧ ∀ p ∈ n.props, p.name.length ≤ 1000 ∧ p.val.length ≤ 1000 := by
  unfold smallN at h
  simp only [Bool.and_eq_true, decide_eq_true_eq, List.all_eq_true] at h
  obtain ⟨⟨⟨⟨h1, h2⟩, h3⟩, h4⟩, h5⟩ := h
  exact ⟨by unfold Wide; omega, h3, h4, fun p hp => h5 p hp⟩
theorem nods_of_owns {w : World} {base c : Nat} {a : Option Addr} {ts : List NT} (h : w.ownsRow base 26 3 (.slice a ts.length c) ts.length (ts.flatMap encNd)) (hp : ∀ t ∈ ts, PO base w t) (hs : ∀ t ∈ ts, smallN t.n = true) : SlOf 3 RNod w a (ts.map NT.n) := by
  rcases Nat.eq_zero_or_pos ts.length with e | e
  · exact fun k hk => absurd hk (by rw [List.length_map]; omega)
  · obtain ⟨g, cap, hv, hc, _, hcell⟩ := owns_cell h e
    injection hv with h1 h2 h3
    subst h1
    subst h3
    refine fun k hk => ?_
    have hk' : k < ts.length := by simpa using hk
    have h2 : ∀ j, j < 3 → w.cell? ⟨g, k * 3 + j, none⟩ = (encNd ts[k])[j]? := fun j hj => by
      have e := flat_at encNd 3 (fun _ => rfl) ts k j hk' hj
      rw [hcell _ (by omega), e]
    obtain ⟨q1, q2, q3, q4⟩ := small_of (hs _ (List.getElem_mem hk'))
    obtain ⟨q5, q6⟩ := prps_of_owns (hp _ (List.getElem_mem hk')) q4
    rw [List.getElem_map]
    refine ⟨g, 0, rfl, ⟨?_, q1⟩, ⟨?_, by omega⟩, ⟨ts[k].a, ts[k].c, ?_, q5, by unfold Fit; omega, q6⟩⟩
    · rw [Nat.zero_add]; exact h2 0 (by omega)
    · rw [Nat.zero_add]; exact h2 1 (by omega)
    · rw [Nat.zero_add]; exact h2 2 (by omega)
def allS : Bool := (List.range 8).all fun k => (List.range 8).all fun i => (List.range 8).all fun j => (cvT k i j).all smallN
set_option maxRecDepth 100000 in
theorem allS_true : allS = true := by kernel_rfl
theorem cvT_small {k i j : Nat} (hk : k < 8) (hi : i < 8) (hj : j < 8) : ∀ n ∈ cvT k i j, smallN n = true := by
  have h := allS_true
  unfold allS at h
  have a := List.all_eq_true.1 (List.all_eq_true.1 (List.all_eq_true.1 h k (by simp; omega)) i (by simp; omega)) j (by simp; omega)
  exact fun n hn => List.all_eq_true.1 a n hn
theorem downs_step {i m : Nat} (h : i < m) : downs i m = (m : Int) :: downs i (m - 1) := by
  obtain ⟨m, rfl⟩ : ∃ q, m = q + 1 := ⟨m - 1, by omega⟩
  rw [downs, if_pos h]; rfl
theorem downs_nil {i m : Nat} (h : m ≤ i) : downs i m = [] := by
  cases m with
  | zero => rfl
  | succ m => rw [downs, if_neg (by omega)]
end Go.Proofs.Ytdjhnfopdlgliaa
