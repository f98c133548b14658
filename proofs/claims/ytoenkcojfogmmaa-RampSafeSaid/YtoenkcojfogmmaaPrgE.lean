/- slices.Backward over supplies: the iterator's contract (after the kit's worked proof of slices.All). -/
import Derived.RangeFuncNested
import Derived.RangeFuncBound
import Derived.RangeFuncCalls
import Derived.RangeFuncLeaves
import Derived.Shelf.Abstract
import Derived.Shelf.RegionOpen
import Derived.WalkKit
import Derived.OwnWalkIn
import Derived.TacticsInMore
import Derived.LoopNIn
import Derived.LoopIn
import Derived.Test.YtoenkcojfogmmaaPrgD
set_option linter.unusedVariables false
set_option linter.unusedSimpArgs false
namespace Go.Proofs.Ytoenkcojfogmmaa
open Go.RowKit Go.Shelf
open Classical
attribute [local go_sem] Oper.semAt_some

/-- The first k of the indices below n, from the last one on. -/
def downs (n k : Nat) : List (Fin n) := (List.finRange n).reverse.take k
theorem downs_len (n k : Nat) (h : k ≤ n) : (downs n k).length = k := by simp [downs]; omega
theorem downs_succ (n k : Nat) (h : k < n) : downs n (k + 1) = downs n k ++ [⟨n - 1 - k, by omega⟩] := by
  unfold downs
  rw [List.take_add_one]
  congr 1
  rw [List.getElem?_eq_getElem (by simpa using h)]
  simp
/-- Two blocks lie as they lay. -/
def Keep2 (b c : Nat) (W W' : World) : Prop := W'.heap[b]? = W.heap[b]? ∧ W'.heap[c]? = W.heap[c]?
theorem Keep2.refl (b c : Nat) (W : World) : Keep2 b c W W := ⟨rfl, rfl⟩
theorem Keep2.trans {b c : Nat} {A B C : World} (h : Keep2 b c A B) (k : Keep2 b c B C) : Keep2 b c A C := ⟨k.1.trans h.1, k.2.trans h.2⟩
theorem Keep2.fst {b c : Nat} {W W' : World} (h : Keep2 b c W W') {o : Nat} {s : Option Nat} {v : Value} (q : W.cell? ⟨b, o, s⟩ = some v) : W'.cell? ⟨b, o, s⟩ = some v := (World.cell?_of_block (w := W) h.1).trans q
theorem Keep2.snd {b c : Nat} {W W' : World} (h : Keep2 b c W W') {o : Nat} {s : Option Nat} {v : Value} (q : W.cell? ⟨c, o, s⟩ = some v) : W'.cell? ⟨c, o, s⟩ = some v := (World.cell?_of_block (w := W) h.2).trans q
/-- The value of a supply in memory. -/
def sv (l : List Sup) (al : Nat → Option Addr) (cl : Nat → Nat) (x : Fin l.length) : Value := .agg #[.int .i64 l[x.1].parent, .slice (al x.1) l[x.1].levels.length (cl x.1), .int .i64 l[x.1].dropout, .int .i64 l[x.1].capacity, .bool l[x.1].always]
/-- The cells of supplies. -/
def SupCells (w : World) (b o : Nat) (l : List Sup) (al : Nat → Option Addr) (cl : Nat → Nat) : Prop :=
  ∀ k (hk : k < l.length), w.cell? ⟨b, o + k * 5, none⟩ = some (.int .i64 l[k].parent) ∧ w.cell? ⟨b, o + k * 5 + 1, none⟩ = some (.slice (al k) l[k].levels.length (cl k)) ∧ w.cell? ⟨b, o + k * 5 + 2, none⟩ = some (.int .i64 l[k].dropout) ∧ w.cell? ⟨b, o + k * 5 + 3, none⟩ = some (.int .i64 l[k].capacity) ∧ w.cell? ⟨b, o + k * 5 + 4, none⟩ = some (.bool l[k].always)

set_option maxRecDepth 100000 in
set_option maxHeartbeats 2000000 in
theorem backward1_in (F : Fence) (n : Nat) (h8 : F.fn 80) (hro : F.round = none) (hn : 1 ≤ n) (lp Bs b o cap : Nat) (l : List Sup) (al : Nat → Option Addr) (cl : Nat → Nat) (hl : l.length ≤ 16) (J Jx : List (Fin l.length) → World → Prop)
    (hY : ∀ pre x W, J pre W → pre.length < l.length → YieldAt F (n - 1) Try.prog lp #[.int .i64 (x.1 : Int), sv l al cl x] W fun e W' =>
      (e = .returned (.bool true) ∧ J (pre ++ [x]) W' ∧ Keep2 b Bs W W') ∨ (e = .returned (.bool false) ∧ Jx (pre ++ [x]) W'))
    (W : World) (hBs : W.cell? ⟨Bs, 0, none⟩ = some (.slice (some ⟨b, o, none⟩) l.length cap)) (hc : SupCells W b o l al cl) (h0 : J [] W) :
    CallsIn F n Try.prog 80 #[.func (.yield lp) #[] #[], .pointer (some ⟨Bs, 0, none⟩)] W fun e W' => (∃ v, e = .returned v) ∧
      ((∃ ys, ys = downs l.length l.length ∧ J ys W') ∨ (∃ pre, (∃ k, k ≤ l.length ∧ pre = downs l.length k) ∧ Jx pre W')) := by
  have HC := Lib.hid hc
  clear hc
  refine callsIn_of_wp Try.func80 rfl h8 ?_ hro
  simp only [Try.ntmps80, List.size_toArray, List.length_cons, List.length_nil, Nat.reduceAdd, Nat.reduceSub, Array.replicate_succ, Array.replicate_zero, List.push_toArray, List.append_toArray, List.nil_append, List.cons_append]
  gi_wp2
  gi_loopw [3] (fun i wr => ∃ k : Nat, k ≤ l.length ∧ i = .int .i64 ((k : Int) - 1) ∧ J (downs l.length (l.length - k)) wr ∧ Keep2 b Bs W wr)
    (fun i _ => (intOf i + 1).toNat)
  case atStart => exact ⟨l.length, Nat.le_refl _, rfl, by rw [Nat.sub_self]; exact h0, Keep2.refl _ _ _⟩
  case round =>
    obtain ⟨k, hk, rfl, hJs, hnx⟩ := hrel
    have hBs' := hnx.snd hBs
    cases k with
    | zero =>
      gi_wp2
      go_end0
      exact ⟨⟨_, rfl⟩, .inl ⟨_, rfl, by simpa using hJs⟩⟩
    | succ j =>
      rw [show ((j + 1 : Nat) : Int) - 1 = (j : Int) by omega]
      obtain ⟨c0, c1, c2, c3, c4⟩ := HC.out j hk
      replace c0 := hnx.fst c0
      replace c1 := hnx.fst c1
      replace c2 := hnx.fst c2
      replace c3 := hnx.fst c3
      replace c4 := hnx.fst c4
      have hd : downs l.length (l.length - j) = downs l.length (l.length - (j + 1)) ++ [⟨j, hk⟩] := by
        have := downs_succ l.length (l.length - (j + 1)) (by omega)
        rw [show l.length - (j + 1) + 1 = l.length - j by omega] at this
        rw [this]
        congr 3
        omega
      obtain ⟨fn, tmps, assign, body, hy, hR⟩ := hY _ ⟨j, hk⟩ wr hJs (by rw [downs_len _ _ (by omega)]; omega)
      unfold sv at hy
      dsimp only at hy
      gi_wp2
      refine hR.mono ?_
      rintro e W3 (⟨rfl, hJ3, hk3⟩ | ⟨rfl, hJx3⟩)
      · gi_wp2
        go_roundw
        case rel => exact ⟨j, by omega, by simp, by rw [hd]; exact hJ3, hnx.trans hk3⟩
        case measure => simp [intOf]
      · gi_wp2
        refine bodyPost_ret (results_none rfl _ _ _) rfl ?_
        exact ⟨⟨_, rfl⟩, .inr ⟨_, ⟨l.length - j, by omega, hd.symm⟩, hJx3⟩⟩

set_option maxRecDepth 100000 in
set_option maxHeartbeats 2000000 in
theorem backward1_nil_in (F : Fence) (n : Nat) (h8 : F.fn 80) (hro : F.round = none) (lp Bs cap : Nat) (ao : Option Addr) {α : Type} (J : List α → World → Prop)
    (W : World) (hBs : W.cell? ⟨Bs, 0, none⟩ = some (.slice ao 0 cap)) (h0 : J [] W) :
    CallsIn F n Try.prog 80 #[.func (.yield lp) #[] #[], .pointer (some ⟨Bs, 0, none⟩)] W fun e W' => (∃ v, e = .returned v) ∧ J [] W' := by
  refine callsIn_of_wp Try.func80 rfl h8 ?_ hro
  simp only [Try.ntmps80, List.size_toArray, List.length_cons, List.length_nil, Nat.reduceAdd, Nat.reduceSub, Array.replicate_succ, Array.replicate_zero, List.push_toArray, List.append_toArray, List.nil_append, List.cons_append]
  gi_wp2
  gi_loopw [3] (fun i wr => i = .int .i64 (-1) ∧ wr = W) (fun i _ => 0)
  case atStart => exact ⟨rfl, rfl⟩
  case round =>
    obtain ⟨rfl, rfl⟩ := hrel
    gi_wp2
    go_end0
    exact ⟨⟨_, rfl⟩, h0⟩

theorem keep2_b {b c : Nat} {w : World} (hb : b < w.heap.size) (hc : c < w.heap.size) (W : World) (l : Nat) (o o' : Obj) (hl : w.heap.size ≤ l) (h : W.heap[l]? = some o) (_ : o.isCells = false) (_ : o.isWalk = false) : Keep2 b c W (W.putObj l o') :=
  ⟨(belowK_b (w := w) (Nat.le_refl _) W l o o' hl h (by assumption) (by assumption)).block b hb, (belowK_b (w := w) (Nat.le_refl _) W l o o' hl h (by assumption) (by assumption)).block c hc⟩

theorem backward_stops (F : Fence) (n : Nat) (h8 : F.fn 80) (hro : F.round = none) (hn : 1 ≤ n) (Bs b cap : Nat) (ao : Option Addr) (l : List Sup) (al : Nat → Option Addr) (cl : Nat → Nat) (hl : l.length ≤ 16) (w : World) (hBs : Bs < w.heap.size) (hb : b < w.heap.size)
    (hc : w.cell? ⟨Bs, 0, none⟩ = some (.slice ao l.length cap)) (hS : l.length = 0 ∨ ∃ o, ao = some ⟨b, o, none⟩ ∧ SupCells w b o l al cl) :
    SeqStopsK F n Try.prog 80 #[.pointer (some ⟨Bs, 0, none⟩)] (fun x : Fin l.length => #[Value.int .i64 (x.1 : Int), sv l al cl x]) (Keep2 b Bs) (fun ys => ys = downs l.length l.length)
      (fun pre => ∃ k, k ≤ l.length ∧ pre = downs l.length k) l.length w := fun lp J Jx W hW _ _ hY h0 => by
  have hc' := (hW.cell (p := ⟨Bs, 0, none⟩) hBs).trans hc
  rcases hS with h | ⟨o, rfl, hcs⟩
  · rw [h] at hc'
    refine (backward1_nil_in F n h8 hro lp Bs cap ao J W hc' h0).mono fun e W' ⟨he, hj⟩ => ⟨he, .inl ⟨[], ?_, hj⟩⟩
    show ([] : List (Fin l.length)) = downs l.length l.length
    symm
    exact List.eq_nil_of_length_eq_zero (by rw [downs_len _ _ (Nat.le_refl _)]; exact h)
  · exact backward1_in F n h8 hro hn lp Bs b o cap l al cl hl J Jx hY W hc' (fun k hk => by
      obtain ⟨c0, c1, c2, c3, c4⟩ := hcs k hk
      exact ⟨(hW.cell (p := ⟨b, _, none⟩) hb).trans c0, (hW.cell (p := ⟨b, _, none⟩) hb).trans c1, (hW.cell (p := ⟨b, _, none⟩) hb).trans c2, (hW.cell (p := ⟨b, _, none⟩) hb).trans c3, (hW.cell (p := ⟨b, _, none⟩) hb).trans c4⟩) h0

/-- slices.Backward: it boxes the slice, and returns the iterator. -/
theorem backward_in (F : Fence) (n : Nat) (h7 : F.fn 78) (hro : F.round = none) (ao : Option Addr) (len cap : Nat) (w : World) :
    CallsIn F n Try.prog 78 #[.slice ao len cap] w fun e w' => e = .returned (.func (.func 80) #[] #[.pointer (some ⟨w.heap.size, 0, none⟩)]) ∧ w' = w.alloc (.cells #[.slice ao len cap] 25) := by
  refine callsIn_of_wp Try.func78 rfl h7 ?_ hro
  simp only [Try.ntmps78, List.size_toArray, List.length_cons, List.length_nil, Nat.reduceAdd, Nat.reduceSub, Array.replicate_succ, Array.replicate_zero, List.push_toArray, List.append_toArray, List.nil_append, List.cons_append]
  gi_wp2
  go_ret
  exact ⟨rfl, rfl⟩
end Go.Proofs.Ytoenkcojfogmmaa
