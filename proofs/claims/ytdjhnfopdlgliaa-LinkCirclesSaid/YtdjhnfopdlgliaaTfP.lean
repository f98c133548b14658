/- LinkCircles in plain lists. -/
import Derived.Test.YtdjhnfopdlgliaaTfA
set_option linter.unusedVariables false
set_option linter.unusedSimpArgs false
namespace Go.Proofs.Ytdjhnfopdlgliaa
open Go.RowKit

def cvV (i j m : Nat) : St := (if 1 < m then cellsS [100 + m - 1] else []) ++ (if m = i ∧ i ≤ j then cellsS [100 + j] else [])
def cvP (i j m : Nat) : List Prp := (if cvV i j m = [] then [] else [⟨sC, cvV i j m⟩]) ++ [⟨phS, cellsS [100 + m]⟩]
def cvN (i j m : Nat) : Nod := ⟨0, [UInt8.ofNat (97 + m)], cvP i j m⟩
def cvT (k i j : Nat) : Tr := ⟨-1, [], []⟩ :: (List.range' 1 k).map (cvN i j)
/-- m down to i + 1. -/
def downs (i : Nat) : Nat → List Int
  | 0 => []
  | m + 1 => if i < m + 1 then ((m + 1 : Nat) : Int) :: downs i m else []
def wantC (i j : Nat) : List Int := (i : Int) :: downs i j
def sortedB : List Int → Bool
  | [] => true
  | [_] => true
  | a :: b :: l => decide (a ≤ b) && sortedB (b :: l)
def okG (i j : Nat) (g : List (List Int)) : Bool :=
  if j < i then decide (bestT g = []) && (match orderF g g.length (List.replicate g.length false) [] with | .ok o => decide (o.length = g.length) | .error _ => false)
  else decide (bestT g = wantC i j) && (match orderF g g.length (List.replicate g.length false) [] with | .ok _ => false | .error e => decide (e = 10))
def okC (k i j : Nat) : Bool :=
  decide (chkT (cvT k i j) = 0) && (match allT (cvT k i j) sC sK (k + 1) with
  | .error _ => false
  | .ok ls => (rawG (k + 1) ls).all sortedB && okG i j ((rawG (k + 1) ls).map Lib.compact))
def allC : Bool := (List.range 8).all fun k => (List.range 8).all fun i => (List.range 8).all fun j => !(decide (2 ≤ k) && decide (1 ≤ i) && decide (i ≤ k) && decide (1 ≤ j) && decide (j ≤ k)) || okC k i j
set_option maxRecDepth 100000 in
theorem allC_true : allC = true := by kernel_rfl
theorem all_okC (k : Nat) (h8 : k < 8) (h2 : 2 ≤ k) (i : Nat) (_ : i < 8) (i1 : 1 ≤ i) (ik : i ≤ k) (j : Nat) (_ : j < 8) (j1 : 1 ≤ j) (jk : j ≤ k) : okC k i j = true := by
  have h := allC_true
  unfold allC at h
  have a := List.all_eq_true.1 (List.all_eq_true.1 (List.all_eq_true.1 h k (by simp; omega)) i (by simp; omega)) j (by simp; omega)
  rw [decide_eq_true h2, decide_eq_true i1, decide_eq_true ik, decide_eq_true j1, decide_eq_true jk] at a
  simpa using a
theorem sortedB_pair : ∀ {l : List Int}, sortedB l = true → l.Pairwise (fun x y => x ≤ y)
  | [], _ => .nil
  | [a], _ => List.pairwise_singleton _ _
  | a :: b :: l, h => by
    unfold sortedB at h
    rw [Bool.and_eq_true, decide_eq_true_eq] at h
    have r := sortedB_pair h.2
    refine List.pairwise_cons.2 ⟨fun x hx => ?_, r⟩
    rcases List.mem_cons.1 hx with rfl | q
    · exact h.1
    · have := (List.pairwise_cons.1 r).1 x q; omega
theorem graph_sorted {ts : Tr} {pn cn : St} {ls : List Lnk} (h : allT ts pn cn ts.length = .ok ls) (hs : (rawG ts.length ls).all sortedB = true) : graphT ts pn cn = .ok ((rawG ts.length ls).map Lib.compact) := by
  unfold graphT
  rw [h]
  simp only
  congr 1
  apply List.map_congr_left
  intro g hg
  unfold normG
  rw [srt_sorted (sortedB_pair (List.all_eq_true.1 hs g hg))]
theorem cvT_len (k i j : Nat) : (cvT k i j).length = k + 1 := by simp [cvT]
/-- What LinkCircles asks, in plain lists. -/
theorem circles_ok {k i j : Nat} (h2 : 2 ≤ k) (h8 : k < 8) (i1 : 1 ≤ i) (ik : i ≤ k) (j1 : 1 ≤ j) (jk : j ≤ k) :
    chkT (cvT k i j) = 0 ∧ (j < i → circleT (cvT k i j) sC sK = .ok [] ∧ ∃ o, orderT (cvT k i j) sC sK = .ok o ∧ o.length = k + 1) ∧
    (¬ j < i → circleT (cvT k i j) sC sK = .ok (wantC i j) ∧ orderT (cvT k i j) sC sK = .error 10) := by
  have h := all_okC k h8 h2 i (by omega) i1 ik j (by omega) j1 jk
  unfold okC at h
  rw [Bool.and_eq_true, decide_eq_true_eq] at h
  obtain ⟨hc, h⟩ := h
  cases hz : allT (cvT k i j) sC sK (k + 1) with
  | error e => rw [hz] at h; cases h
  | ok ls =>
    rw [hz] at h
    simp only [Bool.and_eq_true] at h
    obtain ⟨hs, hg⟩ := h
    have e := graph_sorted (ts := cvT k i j) (by rw [cvT_len]; exact hz) (by rw [cvT_len]; exact hs)
    rw [cvT_len] at e
    have el : ((rawG (k + 1) ls).map Lib.compact).length = k + 1 := by rw [List.length_map, rawG_len]
    obtain ⟨g, hgg⟩ : ∃ g, (rawG (k + 1) ls).map Lib.compact = g := ⟨_, rfl⟩
    rw [hgg] at e hg el
    unfold okG at hg
    refine ⟨hc, fun q => ?_, fun q => ?_⟩
    · rw [if_pos q, Bool.and_eq_true, decide_eq_true_eq] at hg
      refine ⟨by unfold circleT; rw [e]; simp only; rw [hg.1], ?_⟩
      cases ho : orderF g g.length (List.replicate g.length false) [] with
      | error er => rw [ho] at hg; cases hg.2
      | ok o =>
        rw [ho] at hg
        exact ⟨o, by unfold orderT; rw [e]; exact ho, by have := hg.2; simp only [decide_eq_true_eq] at this; omega⟩
    · rw [if_neg q, Bool.and_eq_true, decide_eq_true_eq] at hg
      refine ⟨by unfold circleT; rw [e]; simp only; rw [hg.1], ?_⟩
      cases ho : orderF g g.length (List.replicate g.length false) [] with
      | ok o => rw [ho] at hg; cases hg.2
      | error er =>
        rw [ho] at hg
        have := hg.2
        simp only [decide_eq_true_eq] at this
        subst this
        unfold orderT; rw [e]; exact ho
end Go.Proofs.Ytdjhnfopdlgliaa
