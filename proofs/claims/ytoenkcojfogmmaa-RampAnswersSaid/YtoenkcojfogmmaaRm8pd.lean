/- Lemmas and contracts for the proof of RampAnswers (several texts in one, printed by wip/tools/pack.py): ZPrgE ZPrgF ZPrgG ZPrgH ZRmpA. -/
import Derived.Test.YtoenkcojfogmmaaRm8pc
import Derived.RangeFuncNested
import Derived.RangeFuncBound
import Derived.RangeFuncCalls
import Derived.RangeFuncLeaves
import Derived.Shelf.Abstract
import Derived.Shelf.RegionOpen
import Derived.WalkKit
import Derived.OwnWalkIn
import Derived.TacticsInMore
import Derived.LoopNIn
import Derived.LoopIn
import Derived.Maps.AppendAt
set_option maxRecDepth 100000
set_option maxHeartbeats 16000000
set_option linter.unusedVariables false
set_option linter.unusedSimpArgs false
namespace Go.Proofs.Ytoenkcojfogmmaa
open Go.RowKit Go.Shelf
open Classical
attribute [local go_sem] Oper.semAt_some
def downs (n k : Nat) : List (Fin n) := (List.finRange n).reverse.take k
theorem downs_len (n k : Nat) (h : k ≤ n) : (downs n k).length = k := by simp [downs]; omega
theorem downs_succ (n k : Nat) (h : k < n) : downs n (k + 1) = downs n k ++ [⟨n - 1 - k, by omega⟩] := by
  unfold downs
  rw [List.take_add_one]
  congr 1
  rw [List.getElem?_eq_getElem (by simpa using h)]
  simp
def Keep2 (b c : Nat) (W W' : World) : Prop := W'.heap[b]? = W.heap[b]? ∧ W'.heap[c]? = W.heap[c]?
theorem Keep2.refl (b c : Nat) (W : World) : Keep2 b c W W := ⟨rfl, rfl⟩
theorem Keep2.trans {b c : Nat} {A B C : World} (h : Keep2 b c A B) (k : Keep2 b c B C) : Keep2 b c A C := ⟨k.1.trans h.1, k.2.trans h.2⟩
theorem Keep2.fst {b c : Nat} {W W' : World} (h : Keep2 b c W W') {o : Nat} {s : Option Nat} {v : Value} (q : W.cell? ⟨b, o, s⟩ = some v) : W'.cell? ⟨b, o, s⟩ = some v := (World.cell?_of_block (w := W) h.1).trans q
theorem Keep2.snd {b c : Nat} {W W' : World} (h : Keep2 b c W W') {o : Nat} {s : Option Nat} {v : Value} (q : W.cell? ⟨c, o, s⟩ = some v) : W'.cell? ⟨c, o, s⟩ = some v := (World.cell?_of_block (w := W) h.2).trans q
def sv (l : List Sup) (al : Nat → Option Addr) (cl : Nat → Nat) (x : Fin l.length) : Value := .agg #[.int .i64 l[x.1].parent, .slice (al x.1) l[x.1].levels.length (cl x.1), .int .i64 l[x.1].dropout, .int .i64 l[x.1].capacity, .bool l[x.1].always]
def SupCells (w : World) (b o : Nat) (l : List Sup) (al : Nat → Option Addr) (cl : Nat → Nat) : Prop :=
  ∀ k (hk : k < l.length), w.cell? ⟨b, o + k * 5, none⟩ = some (.int .i64 l[k].parent) ∧ w.cell? ⟨b, o + k * 5 + 1, none⟩ = some (.slice (al k) l[k].levels.length (cl k)) ∧ w.cell? ⟨b, o + k * 5 + 2, none⟩ = some (.int .i64 l[k].dropout) ∧ w.cell? ⟨b, o + k * 5 + 3, none⟩ = some (.int .i64 l[k].capacity) ∧ w.cell? ⟨b, o + k * 5 + 4, none⟩ = some (.bool l[k].always)
theorem backward1_in (F : Fence) (n : Nat) (h8 : F.fn 80) (hro : F.round = none) (hn : 1 ≤ n) (lp Bs b o cap : Nat) (l : List Sup) (al : Nat → Option Addr) (cl : Nat → Nat) (hl : l.length ≤ 16) (J Jx : List (Fin l.length) → World → Prop)
    (hY : ∀ pre x W, J pre W → pre.length < l.length → YieldAt F (n - 1) Try.prog lp #[.int .i64 (x.1 : Int), sv l al cl x] W fun e W' =>
      (e = .returned (.bool true) ∧ J (pre ++ [x]) W' ∧ Keep2 b Bs W W') ∨ (e = .returned (.bool false) ∧ Jx (pre ++ [x]) W'))
    (W : World) (hBs : W.cell? ⟨Bs, 0, none⟩ = some (.slice (some ⟨b, o, none⟩) l.length cap)) (hc : SupCells W b o l al cl) (h0 : J [] W) :
    CallsIn F n Try.prog 80 #[.func (.yield lp) #[] #[], .pointer (some ⟨Bs, 0, none⟩)] W fun e W' => (∃ v, e = .returned v) ∧
      ((∃ ys, ys = downs l.length l.length ∧ J ys W') ∨ (∃ pre, (∃ k, k ≤ l.length ∧ pre = downs l.length k) ∧ Jx pre W')) := by
  have HC := Lib.hid hc
  clear hc
  refine callsIn_of_wp Try.func80 rfl h8 ?_ hro
  simp only [Try.ntmps80, List.size_toArray, List.length_cons, List.length_nil, Nat.reduceAdd, Nat.reduceSub, Array.replicate_succ, Array.replicate_zero, List.push_toArray, List.append_toArray, List.nil_append, List.cons_append]
  gi_wp2
  gi_loopw [3] (fun i wr => ∃ k : Nat, k ≤ l.length ∧ i = .int .i64 ((k : Int) - 1) ∧ J (downs l.length (l.length - k)) wr ∧ Keep2 b Bs W wr)
    (fun i _ => (intOf i + 1).toNat)
  case atStart => exact ⟨l.length, Nat.le_refl _, rfl, by rw [Nat.sub_self]; exact h0, Keep2.refl _ _ _⟩
  case round =>
    obtain ⟨k, hk, rfl, hJs, hnx⟩ := hrel
    have hBs' := hnx.snd hBs
    cases k with
    | zero =>
      gi_wp2
      go_end0
      exact ⟨⟨_, rfl⟩, .inl ⟨_, rfl, by simpa using hJs⟩⟩
    | succ j =>
      rw [show ((j + 1 : Nat) : Int) - 1 = (j : Int) by omega]
      obtain ⟨c0, c1, c2, c3, c4⟩ := HC.out j hk
      replace c0 := hnx.fst c0
      replace c1 := hnx.fst c1
      replace c2 := hnx.fst c2
      replace c3 := hnx.fst c3
      replace c4 := hnx.fst c4
      have hd : downs l.length (l.length - j) = downs l.length (l.length - (j + 1)) ++ [⟨j, hk⟩] := by
        have := downs_succ l.length (l.length - (j + 1)) (by omega)
        rw [show l.length - (j + 1) + 1 = l.length - j by omega] at this
        rw [this]
        congr 3
        omega
      obtain ⟨fn, tmps, assign, body, hy, hR⟩ := hY _ ⟨j, hk⟩ wr hJs (by rw [downs_len _ _ (by omega)]; omega)
      unfold sv at hy
      dsimp only at hy
      gi_wp2
      refine hR.mono ?_
      rintro e W3 (⟨rfl, hJ3, hk3⟩ | ⟨rfl, hJx3⟩)
      · gi_wp2
        go_roundw
        case rel => exact ⟨j, by omega, by simp, by rw [hd]; exact hJ3, hnx.trans hk3⟩
        case measure => simp [intOf]
      · gi_wp2
        refine bodyPost_ret (results_none rfl _ _ _) rfl ?_
        exact ⟨⟨_, rfl⟩, .inr ⟨_, ⟨l.length - j, by omega, hd.symm⟩, hJx3⟩⟩
theorem backward1_nil_in (F : Fence) (n : Nat) (h8 : F.fn 80) (hro : F.round = none) (lp Bs cap : Nat) (ao : Option Addr) {α : Type} (J : List α → World → Prop)
    (W : World) (hBs : W.cell? ⟨Bs, 0, none⟩ = some (.slice ao 0 cap)) (h0 : J [] W) :
    CallsIn F n Try.prog 80 #[.func (.yield lp) #[] #[], .pointer (some ⟨Bs, 0, none⟩)] W fun e W' => (∃ v, e = .returned v) ∧ J [] W' := by
  refine callsIn_of_wp Try.func80 rfl h8 ?_ hro
  simp only [Try.ntmps80, List.size_toArray, List.length_cons, List.length_nil, Nat.reduceAdd, Nat.reduceSub, Array.replicate_succ, Array.replicate_zero, List.push_toArray, List.append_toArray, List.nil_append, List.cons_append]
  gi_wp2
  gi_loopw [3] (fun i wr => i = .int .i64 (-1) ∧ wr = W) (fun i _ => 0)
  case atStart => exact ⟨rfl, rfl⟩
  case round =>
    obtain ⟨rfl, rfl⟩ := hrel
    gi_wp2
    go_end0
    exact ⟨⟨_, rfl⟩, h0⟩
theorem keep2_b {b c : Nat} {w : World} (hb : b < w.heap.size) (hc : c < w.heap.size) (W : World) (l : Nat) (o o' : Obj) (hl : w.heap.size ≤ l) (h : W.heap[l]? = some o) (_ : o.isCells = false) (_ : o.isWalk = false) : Keep2 b c W (W.putObj l o') :=
  ⟨(belowK_b (w := w) (Nat.le_refl _) W l o o' hl h (by assumption) (by assumption)).block b hb, (belowK_b (w := w) (Nat.le_refl _) W l o o' hl h (by assumption) (by assumption)).block c hc⟩
theorem backward_stops (F : Fence) (n : Nat) (h8 : F.fn 80) (hro : F.round = none) (hn : 1 ≤ n) (Bs b cap : Nat) (ao : Option Addr) (l : List Sup) (al : Nat → Option Addr) (cl : Nat → Nat) (hl : l.length ≤ 16) (w : World) (hBs : Bs < w.heap.size) (hb : b < w.heap.size)
    (hc : w.cell? ⟨Bs, 0, none⟩ = some (.slice ao l.length cap)) (hS : l.length = 0 ∨ ∃ o, ao = some ⟨b, o, none⟩ ∧ SupCells w b o l al cl) :
    SeqStopsK F n Try.prog 80 #[.pointer (some ⟨Bs, 0, none⟩)] (fun x : Fin l.length => #[Value.int .i64 (x.1 : Int), sv l al cl x]) (Keep2 b Bs) (fun ys => ys = downs l.length l.length)
      (fun pre => ∃ k, k ≤ l.length ∧ pre = downs l.length k) l.length w := fun lp J Jx W hW _ _ hY h0 => by
  have hc' := (hW.cell (p := ⟨Bs, 0, none⟩) hBs).trans hc
  rcases hS with h | ⟨o, rfl, hcs⟩
  · rw [h] at hc'
    refine (backward1_nil_in F n h8 hro lp Bs cap ao J W hc' h0).mono fun e W' ⟨he, hj⟩ => ⟨he, .inl ⟨[], ?_, hj⟩⟩
    show ([] : List (Fin l.length)) = downs l.length l.length
    symm
    exact List.eq_nil_of_length_eq_zero (by rw [downs_len _ _ (Nat.le_refl _)]; exact h)
  · exact backward1_in F n h8 hro hn lp Bs b o cap l al cl hl J Jx hY W hc' (fun k hk => by
      obtain ⟨c0, c1, c2, c3, c4⟩ := hcs k hk
      exact ⟨(hW.cell (p := ⟨b, _, none⟩) hb).trans c0, (hW.cell (p := ⟨b, _, none⟩) hb).trans c1, (hW.cell (p := ⟨b, _, none⟩) hb).trans c2, (hW.cell (p := ⟨b, _, none⟩) hb).trans c3, (hW.cell (p := ⟨b, _, none⟩) hb).trans c4⟩) h0
theorem backward_in (F : Fence) (n : Nat) (h7 : F.fn 78) (hro : F.round = none) (ao : Option Addr) (len cap : Nat) (w : World) :
    CallsIn F n Try.prog 78 #[.slice ao len cap] w fun e w' => e = .returned (.func (.func 80) #[] #[.pointer (some ⟨w.heap.size, 0, none⟩)]) ∧ w' = w.alloc (.cells #[.slice ao len cap] 25) := by
  refine callsIn_of_wp Try.func78 rfl h7 ?_ hro
  simp only [Try.ntmps78, List.size_toArray, List.length_cons, List.length_nil, Nat.reduceAdd, Nat.reduceSub, Array.replicate_succ, Array.replicate_zero, List.push_toArray, List.append_toArray, List.nil_append, List.cons_append]
  gi_wp2
  go_ret
  exact ⟨rfl, rfl⟩
attribute [local go_sem] Oper.semAt_some
def Marks (l : List Sup) (d : List Drw) (m : Nat) (vs : List Bool) : Prop := vs.length = l.length ∧ ∀ j (h : j < vs.length), vs[j] = true ↔ Hit d j m
theorem Marks.start (l : List Sup) (d : List Drw) : Marks l d 0 (List.replicate l.length false) := ⟨by simp, fun j h => by simp [Hit]⟩
theorem Marks.step {l : List Sup} {d : List Drw} {m : Nat} {vs : List Bool} (h : Marks l d m vs) (hm : m < d.length) (s : Nat) (hs : d[m].supply = (s : Int)) : Marks l d (m + 1) (vs.set s true) := by
  refine ⟨by simpa using h.1, fun j hj => ?_⟩
  simp only [List.length_set] at hj
  have hj2 := h.2 j hj
  by_cases e : s = j
  · subst e
    simp only [List.getElem_set_self, true_iff]
    exact ⟨m, by omega, hm, hs⟩
  · rw [List.getElem_set_ne e, hj2]
    constructor
    · rintro ⟨k, h1, h2, h3⟩; exact ⟨k, by omega, h2, h3⟩
    · rintro ⟨k, h1, h2, h3⟩
      by_cases e2 : k = m
      · subst e2; omega
      · exact ⟨k, by omega, h2, h3⟩
theorem Marks.inv {l : List Sup} {d : List Drw} {vs : List Bool} (h : Marks l d d.length vs) : UInv l d (fun j => ∃ x ∈ d, x.supply = (j : Int)) l.length vs := by
  refine ⟨h.1, fun j hj => ⟨fun q => ?_, fun _ => ?_⟩⟩
  · have := h.1; omega
  · rw [h.2 j hj, hit_all]
    exact ⟨fun q => .inl q, fun q => q.elim id (fun ⟨c, h1, h2, _⟩ => by omega)⟩
theorem row_own {β : Type} (B T : Nat) (f : β → List Value) : Own (fun s W => Row W B T (f s)) := fun s X Y rw' hs hg hr => (grownBy_keeps_cells hg hr hs rfl).trans hs
theorem sup_cells {w W : World} {ao : Option Addr} {l : List Sup} (h : SlOf 5 RSup w ao l) (hg : Gr w W) (b0 : Nat) (hb0 : b0 < W.heap.size) :
    ∃ b al cl, b < W.heap.size ∧ (0 < l.length → b < w.heap.size) ∧ (l.length = 0 ∨ ∃ o, ao = some ⟨b, o, none⟩ ∧ SupCells W b o l al cl) := by
  rcases Nat.eq_zero_or_pos l.length with e | e
  · exact ⟨b0, fun _ => none, fun _ => 0, hb0, fun q => by omega, .inl e⟩
  · obtain ⟨b, o, rfl, hall⟩ := h.all e
    have hbw : b < w.heap.size := has_of_cell (hall 0 e).1.1
    refine ⟨b, fun k => if hk : k < l.length then Classical.choose (hall k hk).2.1 else none, fun k => if hk : k < l.length then Classical.choose (Classical.choose_spec (hall k hk).2.1) else 0, Nat.lt_of_lt_of_le hbw hg.size, fun _ => hbw, .inr ⟨o, rfl, fun k hk => ?_⟩⟩
    have q := Classical.choose_spec (Classical.choose_spec (hall k hk).2.1)
    obtain ⟨c0, _, c2, c3, c4⟩ := hall k hk
    refine ⟨cell_gr hg c0.1, ?_, cell_gr hg c2.1, cell_gr hg c3.1, cell_gr hg c4⟩
    simp only [hk, dif_pos]
    exact cell_gr hg q.1
theorem downs_snoc {n k : Nat} {pre : List (Fin n)} {x : Fin n} (hk : k ≤ n) (h : pre ++ [x] = downs n k) : ∃ k0, k = k0 + 1 ∧ pre = downs n k0 ∧ x.1 = n - 1 - k0 ∧ k0 < n := by
  have hl := congrArg List.length h
  rw [downs_len n k hk] at hl
  simp at hl
  refine ⟨pre.length, by omega, ?_⟩
  rw [← hl, downs_succ n pre.length (by omega)] at h
  have := List.append_inj' h rfl
  refine ⟨this.1, ?_, by omega⟩
  have q := this.2
  simp only [List.cons.injEq, and_true] at q
  rw [q]
theorem used_round {l : List Sup} {d : List Drw} {i : Nat} {vs : List Bool} (h : UInv l d (fun j => ∃ x ∈ d, x.supply = (j : Int)) (i + 1) vs) (hi : i < l.length) (hv : i < vs.length) : (vs[i] || l[i].always) = true ↔ Used l d i := by
  have := (h.2 i hv).2 (by omega)
  rw [Bool.or_eq_true, this, used_here hi]
  constructor
  · rintro ((q | q) | q)
    · exact .inr (.inl q)
    · exact .inr (.inr q)
    · exact .inl q
  · rintro (q | q | q)
    · exact .inr q
    · exact .inl (.inl q)
    · exact .inl (.inr q)
def svs (l : List Sup) (al : Nat → Option Addr) (cl : Nat → Nat) (x : Fin l.length) : List Value := [.int .i64 l[x.1].parent, .slice (al x.1) l[x.1].levels.length (cl x.1), .int .i64 l[x.1].dropout, .int .i64 l[x.1].capacity, .bool l[x.1].always]
structure Only (B : Nat) (W W' : World) : Prop where
  ko : KeepsOthers W W'
  blk : ∀ k, k ≠ B → W'.heap[k]? = W.heap[k]?
  os : W'.os = W.os
  tape : W'.tape = W.tape
  output : W'.output = W.output
theorem Only.drew {B : Nat} {W W' : World} (h : Only B W W') : Only B W W'.drew := ⟨h.ko.trans (KeepsOthers.drew _), h.blk, h.os, h.tape, h.output⟩
theorem Only.refl (B : Nat) (W : World) : Only B W W := ⟨KeepsOthers.refl W, fun _ _ => rfl, rfl, rfl, rfl⟩
theorem Only.set {B o : Nat} {v : Value} {W W' : World} (h : Only B W W') : Only B W (W'.setCell ⟨B, o, none⟩ v) :=
  ⟨h.ko.trans (KeepsOthers.setCell _ _ _), fun k hk => by rw [← h.blk k hk]; simp [World.setCell, Array.getElem?_modify, Ne.symm hk], h.os, h.tape, h.output⟩
theorem Only.keep2 {B b c : Nat} {W W' : World} (h : Only B W W') (hb : b ≠ B) (hc : c ≠ B) : Keep2 b c W W' := ⟨h.blk b hb, h.blk c hc⟩
theorem Only.below {B n : Nat} {w W W' : World} (h : Only B W W') (hw : Below n w W) (hn : n ≤ B) : Below n w W' :=
  ⟨h.os.trans hw.os, h.tape.trans hw.tape, h.output.trans hw.output, Nat.le_trans hw.size h.ko.size, fun k hk => (h.blk k (by omega)).trans (hw.block k hk)⟩
theorem Only.row {B C T : Nat} {vs : List Value} {W W' : World} (h : Only B W W') (hr : Row W C T vs) (hc : C ≠ B) : Row W' C T vs := (h.blk C hc).trans hr
theorem used_any (l : List Sup) (d : List Drw) (ao a1 : Option Addr) (cap c1 : Nat) (w : World) (h : SlOf 5 RSup w ao l) (hf : l.length ≤ 16) (hok : AllOkZ l) (h1 : SlOf 4 RDrw w a1 d) (f1 : d.length ≤ 32) (hd : ∀ k (hk : k < d.length), 0 ≤ d[k].supply ∧ d[k].supply < l.length) :
    Calls Try.prog 68 #[.slice ao l.length cap, .slice a1 d.length c1] w (GivesSl 1 RB w (usedL l d)) := by
  have H := Lib.hid h
  have H1 := Lib.hid h1
  have OK := Lib.hid hok
  have HD := Lib.hid hd
  clear h h1 hok hd
  have hmk := run_make_row' (P := Try.prog) 29 4 (.bool false) 1 Try.underlying29 infoBool rfl .i64 .i64 l.length (by omega) (by omega)
  refine (callsIn_wide (n := 3)).1 ?_
  refine callsIn_of_wp_marks Try.func68 rfl trivial ?_ rfl
  simp only [Try.ntmps68, List.size_toArray, List.length_cons, List.length_nil, Nat.reduceAdd, Nat.reduceSub, Array.replicate_succ, Array.replicate_zero, List.push_toArray, List.append_toArray, List.nil_append, List.cons_append]
  gi_wp2_with fail
  clear hmk
  gi_loopw [15] (fun i wr => ∃ m : Nat, m ≤ d.length ∧ i = .int .i64 m ∧ Gr w wr ∧ Row wr (w.heap.size + 1) 29 [.slice (some ⟨w.heap.size, 0, none⟩) l.length l.length] ∧ ∃ vs, Row wr w.heap.size 4 (bools vs) ∧ Marks l d m vs) (fun i _ => d.length - (intOf i).toNat)
  case atStart =>
    refine ⟨0, Nat.zero_le _, rfl, ((Gr.refl _).alloc _).alloc _, ?_, List.replicate l.length false, ?_, Marks.start l d⟩
    · have := Row.new (w.alloc (.cells (madeCells #[.bool false] l.length) 4)) #[.slice (some ⟨w.heap.size, 0, none⟩) l.length l.length] 29
      simp only [World.size_alloc] at this
      exact this
    · have := Row.new w (madeCells #[.bool false] l.length) 4
      rw [made_list] at this
      exact Row.alloc _ (by simpa [bools] using this)
  case round =>
    obtain ⟨m, hm, rfl, hg, hbox, vs, hrow, hinv⟩ := hrel
    have HG := Lib.hid hg
    have HR := Lib.hid hrow
    have HI := Lib.hid hinv
    have HB := Lib.hid hbox
    have b0 := hbox.cell 0 (by simp)
    have b1 := hbox.has
    have r2 := hrow.has
    simp only [List.getElem_cons_zero] at b0
    clear hg hrow hinv hbox
    by_cases hlt : m < d.length
    · obtain ⟨b, o, rfl, ⟨t0, _⟩, ⟨t1, _⟩, ⟨t2, _⟩, ⟨t3, _⟩⟩ := drws_gr H1.out HG.out m hlt
      have hdo := HD.out m hlt
      obtain ⟨sn, hsn⟩ := Int.eq_ofNat_of_zero_le hdo.1
      have SN := Lib.hid hsn
      rw [hsn] at t0
      have hsl : sn < l.length := by omega
      clear hsn hdo
      have hsv : sn < vs.length := by have := HI.out.1; omega
      have s0 := HR.out.bat sn hsv
      have s1 := HR.out.free sn
      have gl : (sn : Int) < l.length := by omega
      have gl0 : (0 : Int) ≤ sn := by omega
      gi_wp2_with fail
      go_roundw
      case rel =>
        refine ⟨m + 1, by omega, by go_num, ?_, ?_, vs.set sn true, ?_, HI.out.step hlt sn SN.out⟩
        · repeat (first | with_reducible exact HG.out | with_reducible refine Gr.setc (by omega) ?_ | with_reducible refine Gr.alloc _ ?_)
        · repeat (first | with_reducible exact HB.out | with_reducible refine Row.alloc _ ?_ | with_reducible refine Row.oth ?_ (by omega))
        · repeat (first | with_reducible exact HR.out.bset sn true | with_reducible refine Row.alloc _ ?_ | with_reducible refine Row.oth ?_ (by omega))
      case measure => simp [intOf]; omega
    · have hmd : m = d.length := by omega
      subst hmd
      have HI0 := Lib.hid HI.out.inv
      clear HI
      gi_wp2_with (refine ⟨trivial, ?_⟩; gi_at_call 78; refine (backward_in Fence.wide _ trivial rfl _ _ _ _).mono ?_; rintro e w' ⟨rfl, rfl⟩)
      obtain ⟨b, al, cl, hbS, hbw, hS⟩ := sup_cells H.out (HG.out.alloc (.cells #[.slice ao l.length cap] 25)) wr.heap.size (by simp)
      refine wpIn_rangeFunc_ownH rfl (by omega) (gf := 80) (lb := #[.pointer (some ⟨wr.heap.size, 0, none⟩)]) rfl trivial (enters_of Try.func80 (by kernel_rfl) rfl)
        (backward_stops Fence.wide _ trivial rfl (by omega) wr.heap.size b cap ao l al cl hf _ (by simp) hbS (by simp [go_sem]) hS) (fun h k => h.trans k) (keep2_b hbS (by simp)) (Below.refl _ _) (fun _ => rfl)
        (fun pre W => ((∃ vs, Row W w.heap.size 4 (bools vs) ∧ vs.length = l.length ∧ ∀ k, k ≤ l.length → pre = downs l.length k → UInv l d (fun j => ∃ x ∈ d, x.supply = (j : Int)) (l.length - k) vs) ∧ Row W (w.heap.size + 1) 29 [.slice (some ⟨w.heap.size, 0, none⟩) l.length l.length]) ∧ (Below w.heap.size w W ∧ wr.heap.size + 1 ≤ W.heap.size))
        (fun _ _ _ => False)
        (OwnFrom.and (Own.from (fun s X Y rw' hs hg hr => ⟨(by obtain ⟨vs, q1, q2⟩ := hs.1; exact ⟨vs, row_own (β := Unit) _ _ (fun _ => _) () X Y rw' q1 hg hr, q2⟩), row_own (β := Unit) _ _ (fun _ => _) () X Y rw' hs.2 hg hr⟩) _) (OwnFrom.and (ownFrom_below (Nat.le_refl _) (by have := HG.out.size; simp; omega)) (fun _ X Y rw' hs hg hr => Nat.le_trans hs hg.size)))
        (fun _ _ _ _ _ hs _ _ => hs.elim)
        ⟨⟨⟨vs, HR.out.alloc _, HI0.out.1, fun k hk e => ?_⟩, HB.out.alloc _⟩, (HG.out.alloc _).below, by simp⟩
        (fun x a' W => ∃ Bx, wr.heap.size < Bx ∧ Row W Bx 70 (svs l al cl x) ∧ a' = { tmps := #[.slice ao l.length cap, .slice a1 d.length c1, undef, undef, .slice none 0 0, .pointer (some ⟨w.heap.size + 1, 0, none⟩), undef, u7, .int .i64 (x.1 : Int), .pointer (some ⟨Bx, 0, none⟩), .slice ao l.length cap, .int .i64 l.length, .slice (some ⟨w.heap.size, 0, none⟩) l.length l.length, .slice a1 d.length c1, .int .i64 d.length, .int .i64 d.length, .bool false, u17, u18, u19, u20, u21, u22, u23, .slice ao l.length cap, .func (.func 80) #[] #[.pointer (some ⟨wr.heap.size, 0, none⟩)], .int .i64 (x.1 : Int), sv l al cl x, undef, undef, undef, undef, undef, undef, undef, undef, undef, undef, undef, undef, undef, undef, undef, undef, undef, undef, undef, undef, undef, undef, undef, undef, undef], defers := [] })
        (fun x a' s X Y rw' hs hg hr => by obtain ⟨Bx, q1, q2, q3⟩ := hs; exact ⟨Bx, q1, row_own (β := Unit) _ _ (fun _ => _) () X Y rw' q2 hg (fun r e => (hr r e).2), q3⟩) ?assign ?body ?done ?stop
      case assign =>
        rintro lp pre x W K hi hK
        obtain ⟨⟨⟨vs', hr', hl', hu'⟩, hb'⟩, hB', hs'⟩ := hi
        simp only [sv]
        gi_wp2
        refine hK _ _ ((KeepsOthers.alloc _ _).from _) ⟨Below.heap_alloc _ _ _ (by simp at hbS; omega), Below.heap_alloc _ _ _ (by omega)⟩ ⟨⟨⟨vs', hr'.alloc _, hl', hu'⟩, hb'.alloc _⟩, hB'.alloc hB'.size _, by simp; omega⟩ ⟨W.heap.size, by omega, Row.new W _ _, rfl⟩
      case body =>
        rintro lp pre x a' W hlp hrec ⟨⟨⟨vs', hr', hl', hu'⟩, hb'⟩, hB', hs'⟩ ⟨Bx, hBx, bX, rfl⟩ hlt'
        have hxl := x.2
        have hxv : x.1 < vs'.length := by omega
        have hbw' := hbw (by omega)
        have pr := OK.out x.1 hxl
        obtain ⟨_, ⟨pr1, pr2, _⟩, _⟩ := pr
        have HR' := Lib.hid hr'
        have HB1 := Lib.hid hb'
        have HU := Lib.hid hu'
        have BX := Lib.hid bX
        have BB := Lib.hid hB'
        have x0 := bX.cell 0 (by simp [svs])
        have x4 := bX.cell 4 (by simp [svs])
        have xh := bX.has
        have bb := hb'.cell 0 (by simp)
        have bh := hb'.has
        have v0 := hr'.bat x.1 hxv
        have v1 := hr'.free x.1
        have vh := hr'.has
        simp only [svs, List.getElem_cons_zero, List.getElem_cons_succ] at x0 x4 bb
        have g0 : (0 : Int) ≤ x.1 := by omega
        have g1 : (x.1 : Int) < l.length := by omega
        clear hr' hb' hu' bX hB'
        have hsz : w.heap.size + 1 < wr.heap.size := b1
        have hne : Bx ≠ w.heap.size := by omega
        have hne1 : w.heap.size + 1 ≠ w.heap.size := by omega
        have fin : ∀ (Bq : Nat) (vs2 : List Bool) (W' : World), Only w.heap.size W W' → Row W' w.heap.size 4 (bools vs2) → vs2.length = l.length → (∀ k0, k0 < l.length → x.1 = l.length - 1 - k0 → UInv l d (fun j => ∃ x ∈ d, x.supply = (j : Int)) (x.1 + 1) vs' → UInv l d (fun j => ∃ x ∈ d, x.supply = (j : Int)) x.1 vs2) →
            KeepsFrom Bq W W' ∧ Keep2 b wr.heap.size W W' ∧ ((∃ vs, Row W' w.heap.size 4 (bools vs) ∧ vs.length = l.length ∧ ∀ k, k ≤ l.length → pre ++ [x] = downs l.length k → UInv l d (fun j => ∃ x ∈ d, x.supply = (j : Int)) (l.length - k) vs) ∧ Row W' (w.heap.size + 1) 29 [.slice (some ⟨w.heap.size, 0, none⟩) l.length l.length]) ∧ (Below w.heap.size w W' ∧ wr.heap.size + 1 ≤ W'.heap.size) := by
          intro Bq vs2 W' ho hrow hlen hstep
          refine ⟨ho.ko.from _, ho.keep2 (by omega) (by omega), ⟨⟨vs2, hrow, hlen, fun k hk e => ?_⟩, ho.row HB1.out (by omega)⟩, ho.below BB.out (Nat.le_refl _), Nat.le_trans hs' ho.ko.size⟩
          obtain ⟨k0, rfl, e2, e3, e4⟩ := downs_snoc hk e
          have q := hstep k0 e4 e3 (by have := HU.out k0 (by omega) e2; rwa [show l.length - k0 = x.1 + 1 by omega] at this)
          rwa [show l.length - (k0 + 1) = x.1 by omega]
        have FIN := Lib.hid fin
        clear fin
        obtain ⟨bv, hbv⟩ : ∃ bv, (vs'[x.1] || l[x.1].always) = bv := ⟨_, rfl⟩
        have HBV := Lib.hid hbv
        have HUR : ∀ q : UInv l d (fun j => ∃ x ∈ d, x.supply = (j : Int)) (x.1 + 1) vs', bv = true ↔ Used l d x.1 := fun q => by rw [← HBV.out]; exact used_round q hxl hxv
        have HUR := Lib.hid HUR
        have v0' : ∀ v, ((W.setCell ⟨w.heap.size, x.1, none⟩ v).drew).cell? ⟨Bx, 0, none⟩ = some (.int .i64 l[x.1].parent) := fun v => by
          rw [cell_drew_own, World.cell?_setCell_other]
          · exact x0
          · simp [hne]
        rcases (by cases bv <;> cases hv : vs'[x.1] <;> cases ha : l[x.1].always <;> simp_all : (vs'[x.1] = true ∧ bv = true) ∨ (vs'[x.1] = false ∧ l[x.1].always = true ∧ bv = true) ∨ (vs'[x.1] = false ∧ l[x.1].always = false ∧ bv = false)) with ⟨hv, rfl⟩ | ⟨hv, ha, rfl⟩ | ⟨hv, ha, rfl⟩
        · rw [hv] at v0
          by_cases hp : 0 ≤ l[x.1].parent
          · obtain ⟨p, hpp⟩ := Int.eq_ofNat_of_zero_le hp
            have PP := Lib.hid hpp
            rw [hpp] at x0 v0' pr1 pr2
            clear hpp hp
            have hpx : p < x.1 := by omega
            have hpl : (p : Int) < l.length := by omega
            have hp0 : (0 : Int) ≤ p := by omega
            have vp := HR'.out.free p
            have vpc := HR'.out.bat p (by omega)
            have hpn : x.1 ≠ p := by omega
            gi_wp2_with fail
            refine wpIn_region_same_tail 11 (by kernel_rfl) (by kernel_rfl) (by kernel_rfl) ?_
            simp only [List.take_succ_cons, List.take_zero, List.drop_succ_cons, List.drop_zero]
            repeat (go_big_quiet_step (fail))
            refine wpQuiet_nil ?_
            gi_wp2_with fail
            exact FIN.out _ ((vs'.set x.1 true).set p true) _ (Only.refl _ _).set.set.drew (by with_reducible refine Row.drew ?_; with_reducible refine Row.bset ?_ _ _; exact HR'.out.bset x.1 true) (by simpa using hl') (fun k0 h1 h2 q => q.step1 hxl true (by simpa using HUR.out q) rfl p PP.out hpx)
          · have hp' : l[x.1].parent < 0 := by omega
            clear hp
            gi_wp2_with fail
            refine wpIn_region_same_tail 11 (by kernel_rfl) (by kernel_rfl) (by kernel_rfl) ?_
            simp only [List.take_succ_cons, List.take_zero, List.drop_succ_cons, List.drop_zero]
            repeat (go_big_quiet_step (fail))
            refine wpQuiet_nil ?_
            gi_wp2_with fail
            exact FIN.out _ (vs'.set x.1 true) _ (Only.refl _ _).set.drew (by with_reducible refine Row.drew ?_; exact HR'.out.bset x.1 true) (by simpa using hl') (fun k0 h1 h2 q => q.step0 hxl true (by simpa using HUR.out q) (by omega))
        · rw [hv] at v0
          rw [ha] at x4
          by_cases hp : 0 ≤ l[x.1].parent
          · obtain ⟨p, hpp⟩ := Int.eq_ofNat_of_zero_le hp
            have PP := Lib.hid hpp
            rw [hpp] at x0 v0' pr1 pr2
            clear hpp hp
            have hpx : p < x.1 := by omega
            have hpl : (p : Int) < l.length := by omega
            have hp0 : (0 : Int) ≤ p := by omega
            have vp := HR'.out.free p
            have vpc := HR'.out.bat p (by omega)
            have hpn : x.1 ≠ p := by omega
            gi_wp2_with fail
            refine wpIn_region_same_tail 11 (by kernel_rfl) (by kernel_rfl) (by kernel_rfl) ?_
            simp only [List.take_succ_cons, List.take_zero, List.drop_succ_cons, List.drop_zero]
            repeat (go_big_quiet_step (fail))
            refine wpQuiet_nil ?_
            gi_wp2_with fail
            exact FIN.out _ ((vs'.set x.1 true).set p true) _ (Only.refl _ _).set.set.drew (by with_reducible refine Row.drew ?_; with_reducible refine Row.bset ?_ _ _; exact HR'.out.bset x.1 true) (by simpa using hl') (fun k0 h1 h2 q => q.step1 hxl true (by simpa using HUR.out q) rfl p PP.out hpx)
          · have hp' : l[x.1].parent < 0 := by omega
            clear hp
            gi_wp2_with fail
            refine wpIn_region_same_tail 11 (by kernel_rfl) (by kernel_rfl) (by kernel_rfl) ?_
            simp only [List.take_succ_cons, List.take_zero, List.drop_succ_cons, List.drop_zero]
            repeat (go_big_quiet_step (fail))
            refine wpQuiet_nil ?_
            gi_wp2_with fail
            exact FIN.out _ (vs'.set x.1 true) _ (Only.refl _ _).set.drew (by with_reducible refine Row.drew ?_; exact HR'.out.bset x.1 true) (by simpa using hl') (fun k0 h1 h2 q => q.step0 hxl true (by simpa using HUR.out q) (by omega))
        · rw [hv] at v0
          rw [ha] at x4
          gi_wp2_with fail
          refine wpIn_region_same_tail 11 (by kernel_rfl) (by kernel_rfl) (by kernel_rfl) ?_
          simp only [List.take_succ_cons, List.take_zero, List.drop_succ_cons, List.drop_zero]
          repeat (go_big_quiet_step (fail))
          refine wpQuiet_nil ?_
          gi_wp2_with fail
          exact FIN.out _ (vs'.set x.1 false) _ (Only.refl _ _).set.drew (by with_reducible refine Row.drew ?_; exact HR'.out.bset x.1 false) (by simpa using hl') (fun k0 h1 h2 q => q.step0 hxl false (by simpa using HUR.out q) (by simp))
      case done =>
        rintro D ys W hD rfl ⟨⟨⟨vs', hr', hl', hu'⟩, hb'⟩, hB', hs'⟩ hK
        have hu := hu' l.length (Nat.le_refl _) rfl
        rw [Nat.sub_self] at hu
        have hvs := hu.done
        subst hvs
        have HR' := Lib.hid hr'
        have HB1 := Lib.hid hb'
        have bb := hb'.cell 0 (by simp)
        have bh := hb'.has
        simp only [List.getElem_cons_zero] at bb
        clear hr' hb' hu' hu
        gi_wp2_with fail
        refine ⟨by simp, .inl ⟨_, _, rfl, run_takeDeferred hK, ?_⟩⟩
        have hB2 := hB'.trans (belowK_b (w := w) (Nat.le_refl _) W D (.deferred (some [])) (.deferred none) (by have := HG.out.size; simp at hD; omega) hK rfl rfl)
        have hrw := row_own (β := Unit) w.heap.size 4 (fun _ => bools (usedL l d)) () W (W.putObj D (.deferred none)) (some D) HR'.out (grownBy_putObj' _ D (.deferred none)) (fun r e => by cases e; exact ⟨_, hK, rfl⟩)
        refine ⟨_, results_tmp rfl _ _ _, some ⟨w.heap.size, 0, none⟩, l.length, ?_, by rw [usedL_len]; exact Nat.le_refl _, by rw [usedL_len]; unfold Fit; omega, ?_, .of_below hB2⟩
        · rw [usedL_len]; rfl
        · exact hrw.slB
      case stop => exact fun D c pre W _ _ h _ => h.elim
      have := congrArg List.length e
      rw [downs_len _ _ hk] at this
      simp at this
      subst this
      exact HI0.out
attribute [local go_sem] Oper.semAt_some
def Sums (l : List Sup) (d : List Drw) (m : Nat) (vs : List Int) : Prop := vs.length = l.length ∧ ∀ j (h : j < vs.length), vs[j] = ownTo d j m
theorem Sums.start (l : List Sup) (d : List Drw) : Sums l d 0 (List.replicate l.length 0) := ⟨by simp, fun j h => by simp [ownTo]⟩
theorem Sums.step {l : List Sup} {d : List Drw} {m : Nat} {vs : List Int} (h : Sums l d m vs) (hm : m < d.length) (s : Nat) (hs : d[m].supply = (s : Int)) (hv : s < vs.length) : Sums l d (m + 1) (vs.set s (vs[s] + d[m].load)) := by
  refine ⟨by simpa using h.1, fun j hj => ?_⟩
  simp only [List.length_set] at hj
  have hj2 := h.2 j hj
  simp only [ownTo, hm, dif_pos]
  by_cases e : s = j
  · subst e
    rw [List.getElem_set_self, h.2 s hv, if_pos hs]
  · rw [List.getElem_set_ne e, hj2, if_neg (by omega)]; omega
theorem Sums.inv {l : List Sup} {d : List Drw} {vs : List Int} (h : Sums l d d.length vs) : LInv l d (fun j => own d j) l.length vs := by
  refine ⟨h.1, fun j hj => ⟨fun q => ?_, fun _ => ?_⟩⟩
  · have := h.1; omega
  · rw [h.2 j hj, up_end]; show ownTo d j d.length = own d j + 0; unfold own; omega
theorem loads_here {l : List Sup} {d : List Drw} {i : Nat} {vs : List Int} (h : LInv l d (fun j => own d j) (i + 1) vs) (hi : i < l.length) (hv : i < vs.length) : vs[i] = ld l d i := by
  rw [(h.2 i hv).2 (by omega), ld_eq l d i hi]
theorem loads_set {l : List Sup} {d : List Drw} {i : Nat} {vs : List Int} (h : LInv l d (fun j => own d j) (i + 1) vs) (hi : i < l.length) (hv : i < vs.length) : vs.set i (ld l d i) = vs := by
  rw [← loads_here h hi hv]; simp
theorem loads_any (l : List Sup) (d : List Drw) (ao a1 : Option Addr) (cap c1 : Nat) (w : World) (h : SlOf 5 RSup w ao l) (hf : l.length ≤ 16) (hok : AllOkZ l) (h1 : SlOf 4 RDrw w a1 d) (f1 : d.length ≤ 32) (hd : ∀ k (hk : k < d.length), 0 ≤ d[k].supply ∧ d[k].supply < l.length) (hd2 : ∀ k (h : k < d.length), 0 ≤ d[k].load ∧ d[k].load ≤ 10000) :
    Calls Try.prog 69 #[.slice ao l.length cap, .slice a1 d.length c1] w (GivesSl 1 RI w (loadsL l d)) := by
  have H := Lib.hid h
  have H1 := Lib.hid h1
  have OK := Lib.hid hok
  have HD := Lib.hid hd
  have HD2 := Lib.hid hd2
  clear h h1 hok hd hd2
  have hmk := run_make_row' (P := Try.prog) 22 3 (.int .i64 0) 8 Try.underlying22 infoInt rfl .i64 .i64 l.length (by omega) (by omega)
  refine (callsIn_wide (n := 3)).1 ?_
  refine callsIn_of_wp_marks Try.func69 rfl trivial ?_ rfl
  simp only [Try.ntmps69, List.size_toArray, List.length_cons, List.length_nil, Nat.reduceAdd, Nat.reduceSub, Array.replicate_succ, Array.replicate_zero, List.push_toArray, List.append_toArray, List.nil_append, List.cons_append]
  gi_wp2_with fail
  clear hmk
  gi_loopw [15] (fun i wr => ∃ m : Nat, m ≤ d.length ∧ i = .int .i64 m ∧ Gr w wr ∧ Row wr (w.heap.size + 1) 22 [.slice (some ⟨w.heap.size, 0, none⟩) l.length l.length] ∧ ∃ vs, Row wr w.heap.size 3 (nums vs) ∧ Sums l d m vs) (fun i _ => d.length - (intOf i).toNat)
  case atStart =>
    refine ⟨0, Nat.zero_le _, rfl, ((Gr.refl _).alloc _).alloc _, ?_, List.replicate l.length 0, ?_, Sums.start l d⟩
    · have := Row.new (w.alloc (.cells (madeCells #[.int .i64 0] l.length) 3)) #[.slice (some ⟨w.heap.size, 0, none⟩) l.length l.length] 22
      simp only [World.size_alloc] at this
      exact this
    · have := Row.new w (madeCells #[.int .i64 0] l.length) 3
      rw [made_list] at this
      exact Row.alloc _ (by simpa [nums] using this)
  case round =>
    obtain ⟨m, hm, rfl, hg, hbox, vs, hrow, hinv⟩ := hrel
    have HG := Lib.hid hg
    have HR := Lib.hid hrow
    have HI := Lib.hid hinv
    have HB := Lib.hid hbox
    have b0 := hbox.cell 0 (by simp)
    have b1 := hbox.has
    have r2 := hrow.has
    simp only [List.getElem_cons_zero] at b0
    clear hg hrow hinv hbox
    by_cases hlt : m < d.length
    · obtain ⟨b, o, rfl, ⟨t0, _⟩, ⟨t1, _⟩, ⟨t2, _⟩, ⟨t3, _⟩⟩ := drws_gr H1.out HG.out m hlt
      have hdo := HD.out m hlt
      obtain ⟨sn, hsn⟩ := Int.eq_ofNat_of_zero_le hdo.1
      have SN := Lib.hid hsn
      rw [hsn] at t0
      have hsl : sn < l.length := by omega
      clear hsn hdo
      have hsv : sn < vs.length := by have := HI.out.1; omega
      have s0 := HR.out.iat sn hsv
      have s1 := HR.out.free sn
      have gl : (sn : Int) < l.length := by omega
      have gl0 : (0 : Int) ≤ sn := by omega
      have hvv := HI.out.2 sn hsv
      have ow := ownTo_wide d HD2.out sn m
      rw [← hvv] at ow
      have hld := HD2.out m hlt
      have ow0 := ow.1
      have ow1 : vs[sn] ≤ 320000 := by omega
      have l0 := hld.1
      have l1 := hld.2
      clear hvv ow hld
      gi_wp2_with fail
      refine wpIn_wide.2 ?_
      go_region
      all_goals gi_wp2_with fail
      all_goals go_roundw
      case rel =>
        refine ⟨m + 1, by omega, by go_num, ?_, ?_, vs.set sn (vs[sn] + d[m].load), ?_, HI.out.step hlt sn SN.out hsv⟩
        · repeat (first | with_reducible exact HG.out | with_reducible refine Gr.drew ?_ | with_reducible refine Gr.setc (by omega) ?_ | with_reducible refine Gr.alloc _ ?_)
        · repeat (first | with_reducible exact HB.out | with_reducible refine Row.drew ?_ | with_reducible refine Row.alloc _ ?_ | with_reducible refine Row.oth ?_ (by omega))
        · repeat (first | with_reducible exact HR.out.iset sn _ | with_reducible refine Row.drew ?_ | with_reducible refine Row.alloc _ ?_ | with_reducible refine Row.oth ?_ (by omega))
      case measure => simp [intOf]; omega
    · have hmd : m = d.length := by omega
      subst hmd
      have HI0 := Lib.hid HI.out.inv
      clear HI
      gi_wp2_with (refine ⟨trivial, ?_⟩; gi_at_call 78; refine (backward_in Fence.wide _ trivial rfl _ _ _ _).mono ?_; rintro e w' ⟨rfl, rfl⟩)
      obtain ⟨b, al, cl, hbS, hbw, hS⟩ := sup_cells H.out (HG.out.alloc (.cells #[.slice ao l.length cap] 25)) wr.heap.size (by simp)
      refine wpIn_rangeFunc_ownH rfl (by omega) (gf := 80) (lb := #[.pointer (some ⟨wr.heap.size, 0, none⟩)]) rfl trivial (enters_of Try.func80 (by kernel_rfl) rfl)
        (backward_stops Fence.wide _ trivial rfl (by omega) wr.heap.size b cap ao l al cl hf _ (by simp) hbS (by simp [go_sem]) hS) (fun h k => h.trans k) (keep2_b hbS (by simp)) (Below.refl _ _) (fun _ => rfl)
        (fun pre W => ((∃ vs, Row W w.heap.size 3 (nums vs) ∧ vs.length = l.length ∧ ∀ k, k ≤ l.length → pre = downs l.length k → LInv l d (fun j => own d j) (l.length - k) vs) ∧ Row W (w.heap.size + 1) 22 [.slice (some ⟨w.heap.size, 0, none⟩) l.length l.length]) ∧ (Below w.heap.size w W ∧ wr.heap.size + 1 ≤ W.heap.size))
        (fun _ _ _ => False)
        (OwnFrom.and (Own.from (fun s X Y rw' hs hg hr => ⟨(by obtain ⟨vs, q1, q2⟩ := hs.1; exact ⟨vs, row_own (β := Unit) _ _ (fun _ => _) () X Y rw' q1 hg hr, q2⟩), row_own (β := Unit) _ _ (fun _ => _) () X Y rw' hs.2 hg hr⟩) _) (OwnFrom.and (ownFrom_below (Nat.le_refl _) (by have := HG.out.size; simp; omega)) (fun _ X Y rw' hs hg hr => Nat.le_trans hs hg.size)))
        (fun _ _ _ _ _ hs _ _ => hs.elim)
        ⟨⟨⟨vs, HR.out.alloc _, HI0.out.1, fun k hk e => ?_⟩, HB.out.alloc _⟩, (HG.out.alloc _).below, by simp⟩
        (fun x a' W => ∃ Bx, wr.heap.size < Bx ∧ Row W Bx 70 (svs l al cl x) ∧ a' = { tmps := #[.slice ao l.length cap, .slice a1 d.length c1, undef, undef, .slice none 0 0, .pointer (some ⟨w.heap.size + 1, 0, none⟩), undef, u7, .int .i64 (x.1 : Int), .pointer (some ⟨Bx, 0, none⟩), .slice ao l.length cap, .int .i64 l.length, .slice (some ⟨w.heap.size, 0, none⟩) l.length l.length, .slice a1 d.length c1, .int .i64 d.length, .int .i64 d.length, .bool false, u17, u18, u19, u20, u21, u22, u23, u24, u25, u26, u27, u28, .slice ao l.length cap, .func (.func 80) #[] #[.pointer (some ⟨wr.heap.size, 0, none⟩)], .int .i64 (x.1 : Int), sv l al cl x, undef, undef, undef, undef, undef, undef, undef, undef, undef, undef, undef, undef, undef, undef, undef], defers := [] })
        (fun x a' s X Y rw' hs hg hr => by obtain ⟨Bx, q1, q2, q3⟩ := hs; exact ⟨Bx, q1, row_own (β := Unit) _ _ (fun _ => _) () X Y rw' q2 hg (fun r e => (hr r e).2), q3⟩) ?assign ?body ?done ?stop
      case assign =>
        rintro lp pre x W K hi hK
        obtain ⟨⟨⟨vs', hr', hl', hu'⟩, hb'⟩, hB', hs'⟩ := hi
        simp only [sv]
        gi_wp2
        refine hK _ _ ((KeepsOthers.alloc _ _).from _) ⟨Below.heap_alloc _ _ _ (by simp at hbS; omega), Below.heap_alloc _ _ _ (by omega)⟩ ⟨⟨⟨vs', hr'.alloc _, hl', hu'⟩, hb'.alloc _⟩, hB'.alloc hB'.size _, by simp; omega⟩ ⟨W.heap.size, by omega, Row.new W _ _, rfl⟩
      case body =>
        rintro lp pre x a' W hlp hrec ⟨⟨⟨vs', hr', hl', hu'⟩, hb'⟩, hB', hs'⟩ ⟨Bx, hBx, bX, rfl⟩ hlt'
        have hxl := x.2
        have hxv : x.1 < vs'.length := by omega
        have hbw' := hbw (by omega)
        have pr := OK.out x.1 hxl
        obtain ⟨_, ⟨pr1, pr2, _⟩, _⟩ := pr
        have HR' := Lib.hid hr'
        have HB1 := Lib.hid hb'
        have HU := Lib.hid hu'
        have BX := Lib.hid bX
        have BB := Lib.hid hB'
        have x0 := bX.cell 0 (by simp [svs])
        have x4 := bX.cell 4 (by simp [svs])
        have xh := bX.has
        have bb := hb'.cell 0 (by simp)
        have bh := hb'.has
        have v0 := hr'.iat x.1 hxv
        have v1 := hr'.free x.1
        have vh := hr'.has
        simp only [svs, List.getElem_cons_zero, List.getElem_cons_succ] at x0 x4 bb
        have g0 : (0 : Int) ≤ x.1 := by omega
        have g1 : (x.1 : Int) < l.length := by omega
        clear hr' hb' hu' bX hB'
        have hsz : w.heap.size + 1 < wr.heap.size := b1
        have hne : Bx ≠ w.heap.size := by omega
        have hne1 : w.heap.size + 1 ≠ w.heap.size := by omega
        have fin : ∀ (Bq : Nat) (vs2 : List Int) (W' : World), Only w.heap.size W W' → Row W' w.heap.size 3 (nums vs2) → vs2.length = l.length → (∀ k0, k0 < l.length → x.1 = l.length - 1 - k0 → LInv l d (fun j => own d j) (x.1 + 1) vs' → LInv l d (fun j => own d j) x.1 vs2) →
            KeepsFrom Bq W W' ∧ Keep2 b wr.heap.size W W' ∧ ((∃ vs, Row W' w.heap.size 3 (nums vs) ∧ vs.length = l.length ∧ ∀ k, k ≤ l.length → pre ++ [x] = downs l.length k → LInv l d (fun j => own d j) (l.length - k) vs) ∧ Row W' (w.heap.size + 1) 22 [.slice (some ⟨w.heap.size, 0, none⟩) l.length l.length]) ∧ (Below w.heap.size w W' ∧ wr.heap.size + 1 ≤ W'.heap.size) := by
          intro Bq vs2 W' ho hrow hlen hstep
          refine ⟨ho.ko.from _, ho.keep2 (by omega) (by omega), ⟨⟨vs2, hrow, hlen, fun k hk e => ?_⟩, ho.row HB1.out (by omega)⟩, ho.below BB.out (Nat.le_refl _), Nat.le_trans hs' ho.ko.size⟩
          obtain ⟨k0, rfl, e2, e3, e4⟩ := downs_snoc hk e
          have q := hstep k0 e4 e3 (by have := HU.out k0 (by omega) e2; rwa [show l.length - k0 = x.1 + 1 by omega] at this)
          rwa [show l.length - (k0 + 1) = x.1 by omega]
        have FIN := Lib.hid fin
        clear fin
        by_cases hp : 0 ≤ l[x.1].parent
        · obtain ⟨p, hpp⟩ := Int.eq_ofNat_of_zero_le hp
          have PP := Lib.hid hpp
          rw [hpp] at x0 pr1 pr2
          clear hpp hp
          have hpx : p < x.1 := by omega
          have hpl : (p : Int) < l.length := by omega
          have hp0 : (0 : Int) ≤ p := by omega
          have hpv : p < vs'.length := by omega
          have vp := HR'.out.free p
          have vpc := HR'.out.iat p hpv
          by_cases hq : LInv l d (fun j => own d j) (x.1 + 1) vs'
          · have e1 := loads_here hq hxl hxv
            have e2 := (hq.2 p hpv).2 (by omega)
            have q1 := ld_small l d HD2.out f1 hf x.1 hxl
            have q2 := up_small l d HD2.out f1 hf (x.1 + 1) p
            have q3 := ownTo_wide d HD2.out p d.length
            have E2 : vs'[p] = own d p + up l d (x.1 + 1) p := e2
            unfold own at E2
            rw [← e1] at q1
            have a0 := q1.1
            have a1' := q1.2
            have a2 : 0 ≤ vs'[p] := by omega
            have a3 : vs'[p] ≤ 30000000000 := by omega
            have E1 := Lib.hid e1
            have HQ := Lib.hid hq
            clear e1 e2 E2 q1 q2 q3 hq
            gi_wp2_with fail
            refine wpIn_region_same_tail 11 (by kernel_rfl) (by kernel_rfl) (by kernel_rfl) ?_
            simp only [List.take_succ_cons, List.take_zero, List.drop_succ_cons, List.drop_zero]
            repeat (go_big_quiet_step (fail))
            refine wpQuiet_nil ?_
            gi_wp2_with fail
            refine FIN.out _ (vs'.set p (vs'[p] + vs'[x.1])) _ (Only.refl _ _).set.drew (by with_reducible refine Row.drew ?_; exact HR'.out.iset p _) (by simpa using hl') (fun k0 h1 h2 q => ?_)
            have := q.step1 hxl p PP.out hpx hpv
            rw [loads_set q hxl hxv] at this
            rw [E1.out]
            exact this
          · have HQ := Lib.hid hq
            clear hq
            gi_wp2_with fail
            refine wpIn_region_same_tail 11 (by kernel_rfl) (by kernel_rfl) (by kernel_rfl) ?_
            simp only [List.take_succ_cons, List.take_zero, List.drop_succ_cons, List.drop_zero]
            repeat (go_big_quiet_step (fail))
            refine wpQuiet_nil ?_
            gi_wp2_with fail
            refine FIN.out _ (vs'.set p _) _ (Only.refl _ _).set.drew (by with_reducible refine Row.drew ?_; exact HR'.out.iset p _) (by simpa using hl') (fun k0 h1 h2 q => absurd q HQ.out)
        · have hp' : l[x.1].parent < 0 := by omega
          clear hp
          gi_wp2_with fail
          refine FIN.out _ vs' _ (Only.refl _ _) HR'.out hl' (fun k0 h1 h2 q => ?_)
          have := q.step0 hxl hp'
          rw [loads_set q hxl hxv] at this
          exact this
      case done =>
        rintro D ys W hD rfl ⟨⟨⟨vs', hr', hl', hu'⟩, hb'⟩, hB', hs'⟩ hK
        have hu := hu' l.length (Nat.le_refl _) rfl
        rw [Nat.sub_self] at hu
        have hvs := hu.done
        subst hvs
        have HR' := Lib.hid hr'
        have HB1 := Lib.hid hb'
        have bb := hb'.cell 0 (by simp)
        have bh := hb'.has
        simp only [List.getElem_cons_zero] at bb
        clear hr' hb' hu' hu
        gi_wp2_with fail
        refine ⟨by simp, .inl ⟨_, _, rfl, run_takeDeferred hK, ?_⟩⟩
        have hB2 := hB'.trans (belowK_b (w := w) (Nat.le_refl _) W D (.deferred (some [])) (.deferred none) (by have := HG.out.size; simp at hD; omega) hK rfl rfl)
        have hrw := row_own (β := Unit) w.heap.size 3 (fun _ => nums (loadsL l d)) () W (W.putObj D (.deferred none)) (some D) HR'.out (grownBy_putObj' _ D (.deferred none)) (fun r e => by cases e; exact ⟨_, hK, rfl⟩)
        refine ⟨_, results_tmp rfl _ _ _, some ⟨w.heap.size, 0, none⟩, l.length, ?_, by rw [loadsL_len]; exact Nat.le_refl _, by rw [loadsL_len]; unfold Fit; omega, ?_, .of_below hB2⟩
        · rw [loadsL_len]; rfl
        · refine hrw.slI fun k hk => ?_
          have b := ld_small l d HD2.out f1 hf k (by rw [loadsL_len] at hk; exact hk)
          rw [loadsL_at]; unfold Wide; omega
      case stop => exact fun D c pre W _ _ h _ => h.elim
      have := congrArg List.length e
      rw [downs_len _ _ hk] at this
      simp at this
      subst this
      exact HI0.out
end Go.Proofs.Ytoenkcojfogmmaa

set_option linter.unusedVariables false
set_option linter.unusedSimpArgs false
namespace Go.Proofs.Ytoenkcojfogmmaa
open Go.RowKit
open Classical
theorem volt_cells {l : List Sup} {r : Rls} {w : World} {ao a2 : Option Addr} (h : SlOf 5 RSup w ao l) (h2 : SlOf 1 RI w a2 r.level) (hr : RlsOk l r) (k : Nat) (hk : k < l.length) :
    ∃ b o b2 o2 b3 o3 cl n, ao = some ⟨b, o, none⟩ ∧ a2 = some ⟨b2, o2, none⟩ ∧ w.cell? ⟨b, o + k * 5 + 1, none⟩ = some (.slice (some ⟨b3, o3, none⟩) l[k].levels.length cl) ∧ w.cell? ⟨b2, o2 + k, none⟩ = some (.int .i64 (n : Nat)) ∧ n < l[k].levels.length ∧ w.cell? ⟨b3, o3 + n, none⟩ = some (.int .i64 (vlt l r k)) := by
  obtain ⟨k1, n, hn, hn1, hv⟩ := rls_lv hr k hk
  obtain ⟨b, o, rfl, ⟨c0, _⟩, ⟨al, cl, q1, q1l, q1f, cL⟩, _⟩ := h k hk
  obtain ⟨b2, o2, rfl, ⟨e1, _⟩⟩ := h2.one k k1
  obtain ⟨b3, o3, rfl, ⟨e2, _⟩⟩ := cL.one n hn1
  rw [hn] at e1
  exact ⟨b, o, b2, o2, b3, o3, cl, n, rfl, rfl, q1, e1, hn1, hv ▸ e2⟩
theorem meets1_any (l : List Sup) (r : Rls) (d : List Drw) (q0 q1 : Nat) (ao a1 a2 : Option Addr) (cap c1 c2 : Nat) (w : World) (hc : w.cell? ⟨q0, 0, none⟩ = some (.slice ao l.length cap)) (hc1 : w.cell? ⟨q1, 1, none⟩ = some (.slice a2 r.level.length c2))
    (h : SlOf 5 RSup w ao l) (h2 : SlOf 1 RI w a2 r.level) (hr : RlsOk l r) (hd : DrwsOk l d) :
    PredOn VDrw 70 #[.pointer (some ⟨q0, 0, none⟩), .pointer (some ⟨q1, 0, none⟩)] d (fun x => ¬ DrawAt l r x) w := by
  rintro W v k hk hg rfl
  have c0' := cell_gr hg hc
  have c1' := cell_gr hg hc1
  have hh := has_of_cell c0'
  have hh1 := has_of_cell c1'
  have hdo := hd.2.2 k hk
  unfold DrwOk at hdo
  obtain ⟨sn, hsn⟩ := Int.eq_ofNat_of_zero_le hdo.1
  have hsl : sn < l.length := by omega
  have hll := hr.2.2.1
  obtain ⟨b, o, b2, o2, b3, o3, cl, n, rfl, rfl, v1, v2, v3, v4⟩ := volt_cells (sups_gr h hg) (h2.giI hg) hr sn hsl
  have i1 := has_of_cell v1
  have i2 := has_of_cell v2
  have i3 := has_of_cell v4
  have SN := Lib.hid hsn
  clear hc hc1 hg h h2 hr hd hdo
  show Calls Try.prog 70 #[_, _, _] W _
  generalize d[k] = x at *
  rw [hsn]
  clear hsn
  have g0 : (0 : Int) ≤ sn := by omega
  have g1 : (sn : Int) < l.length := by omega
  have g2 : (sn : Int) < r.level.length := by omega
  have g3 : (0 : Int) ≤ n := by omega
  have g4 : (n : Int) < l[sn].levels.length := by omega
  have e : decide (¬ DrawAt l r x) = (!decide (x.low ≤ vlt l r sn) || !decide (vlt l r sn ≤ x.high)) := by
    unfold DrawAt
    rw [SN.out, Int.toNat_natCast]
    by_cases q1 : x.low ≤ vlt l r sn <;> by_cases q2 : vlt l r sn ≤ x.high <;> simp [q1, q2]
  have E := Lib.hid e
  clear e
  go_enter Try.func70, Try.ntmps70
  go_wp2_with fail
  refine wp_region_grows (by kernel_rfl) (by kernel_rfl) ?_
  repeat (go_big_quiet_step ((go_at_call 67; exact calls_same (within_anyZ _ _ _ _))))
  refine wpQuiet_nil ?_
  rintro _ ⟨⟨O5, d5⟩, rfl⟩
  go_wp2_with fail
  go_ret
  exact ⟨ret_bool (by rw [← E.out]; congr), by repeat (first | with_reducible exact Gr.refl _ | with_reducible refine Gr.alloc _ ?_ | with_reducible refine Gr.xt _ _ ?_)⟩
theorem meets_any (l : List Sup) (r : Rls) (d : List Drw) (ao a1 a2 a3 : Option Addr) (cap c1 c2 c3 : Nat) (w : World) (h : SlOf 5 RSup w ao l) (hf : Fit l.length) (h1 : SlOf 1 RB w a1 r.on) (h2 : SlOf 1 RI w a2 r.level) (h3 : SlOf 4 RDrw w a3 d) (f1 : Fit r.on.length) (f2 : Fit r.level.length) (f3 : Fit d.length) :
    Calls Try.prog 39 #[.slice ao l.length cap, .agg #[.slice a1 r.on.length c1, .slice a2 r.level.length c2], .slice a3 d.length c3] w (Grows w (.bool (decide (MeetsAll l r d)))) := by
  have H := Lib.hid h
  have H1 := Lib.hid h1
  have H2 := Lib.hid h2
  have H3 := Lib.hid h3
  have HF := Lib.hid hf
  clear h h1 h2 h3 hf
  by_cases hr : RlsOk l r
  · have hrb : decide (RlsOk l r) = true := by simp [hr]
    have HR := Lib.hid hr
    clear hr
    by_cases hd : DrwsOk l d
    · have hdb : decide (DrwsOk l d) = true := by simp [hd]
      have e : decide (MeetsAll l r d) = decide (MeetsP l r d) := by simp [MeetsAll, hd, HR.out]
      have HD := Lib.hid hd
      have hz := chk_zero hd.1
      have hf : l.length ≤ 16 := by
        have := hz.1
        simp only [BigZ, not_or] at this
        omega
      have OK := Lib.hid hz.2
      have f3' := hd.2.1
      have hon := Lib.hid HR.out.2.1
      have hlv := Lib.hid HR.out.2.2.1
      rw [e]
      clear hd e hz
      go_enter Try.func39, Try.ntmps39
      go_wp2_with fail
      refine (rails_any l r ao a1 a2 cap c1 c2 _ (sups_gr H.out (by repeat (first | with_reducible exact Gr.refl _ | with_reducible refine Gr.alloc _ ?_ | with_reducible refine Gr.xt _ _ ?_))) HF.out (H1.out.giB (by repeat (first | with_reducible exact Gr.refl _ | with_reducible refine Gr.alloc _ ?_ | with_reducible refine Gr.xt _ _ ?_))) (H2.out.giI (by repeat (first | with_reducible exact Gr.refl _ | with_reducible refine Gr.alloc _ ?_ | with_reducible refine Gr.xt _ _ ?_))) f1 f2).mono ?_
      rw [hrb]
      rintro e w' ⟨rfl, O1, d1, rfl⟩
      go_wp2_with fail
      refine (draws_any l d ao a3 cap c3 _ (sups_gr H.out (by repeat (first | with_reducible exact Gr.refl _ | with_reducible refine Gr.alloc _ ?_ | with_reducible refine Gr.xt _ _ ?_))) HF.out (drws_gr H3.out (by repeat (first | with_reducible exact Gr.refl _ | with_reducible refine Gr.alloc _ ?_ | with_reducible refine Gr.xt _ _ ?_))) f3).mono ?_
      rw [hdb]
      rintro e w' ⟨rfl, O2, d2, rfl⟩
      go_upto_region 3 with fail
      go_cut [7, 8] (fun s7 s8 wx => ∃ au cu al cl, s7 = .slice au l.length cu ∧ s8 = .slice al l.length cl ∧ SlOf 1 RB wx au (usedL l d) ∧ SlOf 1 RI wx al (loadsL l d) ∧ Gr ((w.alloc (.cells #[.slice ao l.length cap] 25)).alloc (.cells #[.slice a1 r.on.length c1, .slice a2 r.level.length c2] 31)) wx)
      case first =>
        go_region_with (first
          | (go_at_call 68; refine (used_any l d ao a3 cap c3 _ (sups_gr H.out (by repeat (first | with_reducible exact Gr.refl _ | with_reducible refine Gr.alloc _ ?_ | with_reducible refine Gr.xt _ _ ?_))) hf OK.out (drws_gr H3.out (by repeat (first | with_reducible exact Gr.refl _ | with_reducible refine Gr.alloc _ ?_ | with_reducible refine Gr.xt _ _ ?_))) f3' (fun k hk => by have := HD.out.2.2 k hk; unfold DrwOk at this; omega)).mono ?_; rintro e w' ⟨au, cu, rfl, _, _, hu, O3, d3, rfl⟩; have HU := Lib.hid hu; clear hu; rw [usedL_len])
          | (go_at_call 69; refine (loads_any l d ao a3 cap c3 _ (sups_gr H.out (by repeat (first | with_reducible exact Gr.refl _ | with_reducible refine Gr.alloc _ ?_ | with_reducible refine Gr.xt _ _ ?_))) hf OK.out (drws_gr H3.out (by repeat (first | with_reducible exact Gr.refl _ | with_reducible refine Gr.alloc _ ?_ | with_reducible refine Gr.xt _ _ ?_))) f3' (fun k hk => by have := HD.out.2.2 k hk; unfold DrwOk at this; omega) (fun k hk => by have := HD.out.2.2 k hk; unfold DrwOk at this; omega)).mono ?_; rintro e w' ⟨al, cl, rfl, _, _, hl, O4, d4, rfl⟩; have HL := Lib.hid hl; clear hl; rw [loadsL_len]))
        all_goals (go_wp2_with fail; go_meet)
        all_goals
          refine ⟨au, cu, al, cl, rfl, rfl, ?_, ?_, by repeat (first | with_reducible exact Gr.refl _ | with_reducible refine Gr.alloc _ ?_ | with_reducible refine Gr.xt _ _ ?_)⟩
          · have := HU.out.giB ((Gr.refl _).xt O4 d4)
            simpa only [xt_xt, Array.append_assoc] using this
          · have := HL.out
            simpa only [xt_xt, Array.append_assoc] using this
      obtain ⟨au, cu, al, cl, rfl, rfl, hu, hl, hg⟩ := hcut
      have HU := Lib.hid hu
      have HL := Lib.hid hl
      obtain ⟨w0, rfl⟩ : ∃ w0 : World, w0 = wc := ⟨_, rfl⟩
      have e0 : w0.cell? ⟨w.heap.size, 0, none⟩ = some (.slice ao l.length cap) := cell_gr hg (by simp [go_sem])
      have e1 : w0.cell? ⟨w.heap.size + 1, 0, none⟩ = some (.slice a1 r.on.length c1) := cell_gr hg (by simp [go_sem])
      have e2 : w0.cell? ⟨w.heap.size + 1, 1, none⟩ = some (.slice a2 r.level.length c2) := cell_gr hg (by simp [go_sem])
      have E0 := Lib.hid e0
      have E1 := Lib.hid e1
      have E2 := Lib.hid e2
      have eh := has_of_cell e0
      have eh1 := has_of_cell e1
      have HW0 : Hid (Gr w w0) := Lib.hid ((((Gr.refl w).alloc _).alloc _).trans hg)
      clear hu hl hg
      go_wp2_with fail
      clear e0 e1 e2 eh eh1
      go_loopw [30] (fun i wr => ∃ k : Nat, k ≤ l.length ∧ i = .int .i64 k ∧ (∀ j, j < k → MeetAt l d r j) ∧ Gr w0 wr) (fun i _ => l.length - (intOf i).toNat)
      case atStart => exact ⟨0, Nat.zero_le _, rfl, fun j q => absurd q (by omega), Gr.refl _⟩
      case round =>
        obtain ⟨k, hk, rfl, hall, hg⟩ := hrel
        have HA := Lib.hid hall
        have G0 := Lib.hid hg
        have e0 := cell_gr hg E0.out
        have e1 := cell_gr hg E1.out
        have e2 := cell_gr hg E2.out
        have HG : Hid (Gr w wr) := Lib.hid (HW0.out.trans hg)
        have eh := has_of_cell e0
        have eh1 := has_of_cell e1
        clear hall hg
        by_cases hlt : k < l.length
        · have g0 : (0 : Int) ≤ k := by omega
          have g1 : (k : Int) < l.length := by omega
          have g2 : (k : Int) < r.on.length := by have := hon.out; omega
          have g2' : (k : Int) < r.level.length := by have := hlv.out; omega
          have hko : k < r.on.length := by omega
          obtain ⟨b, o, rfl, ⟨c0, c0w, c0x⟩, ⟨av, cv, q1, q1l, q1f, cV⟩, ⟨c2, c2w, c2x⟩, ⟨c3, _⟩, c4⟩ := sups_gr H.out HG.out k hlt
          unfold RB at c4
          obtain ⟨bu, ou, rfl, u1⟩ := (HU.out.giB G0.out).one k (by rw [usedL_len]; exact hlt)
          rw [usedL_at] at u1
          unfold RB at u1
          obtain ⟨bl, ol, rfl, ⟨v1, v1w, v1x⟩⟩ := (HL.out.giI G0.out).one k (by rw [loadsL_len]; exact hlt)
          rw [loadsL_at] at v1 v1w v1x
          obtain ⟨bo, oo, rfl, r1⟩ := (H1.out.giB HG.out).one k hko
          unfold RB at r1
          have r1' : r.on[k] = onAt r k := (onAt_eq hko).symm
          rw [r1'] at r1
          clear r1'
          have x1 := has_of_cell c0
          have x2 := has_of_cell u1
          have x3 := has_of_cell v1
          have x4 := has_of_cell r1
          obtain ⟨uu, huu⟩ : ∃ uu : Bool, decide (Used l d k) = uu := ⟨_, rfl⟩
          obtain ⟨oo', hoo⟩ : ∃ oo' : Bool, onAt r k = oo' := ⟨_, rfl⟩
          rw [huu] at u1
          rw [hoo] at r1
          have UU := Lib.hid huu
          have OO := Lib.hid hoo
          clear huu hoo
          have HH : HeadOk l[k] k := by obtain ⟨_, q⟩ := OK.out k hlt; exact q.1
          have p1 := HH.2.1
          have dr0 := HH.2.2.2.1
          have dr1 := HH.2.2.2.2.1
          clear HH
          cases oo' with
          | false =>
            cases uu with
            | true =>
              go_wp2_with fail
              go_ret
              exact ⟨ret_bool (dec_false (not_meet_at hlt (fun hm => by have := hm.1 (by simpa using UU.out); rw [OO.out] at this; cases this))), by repeat (first | with_reducible exact HG.out | with_reducible refine Gr.alloc _ ?_ | with_reducible refine Gr.xt _ _ ?_)⟩
            | false =>
              go_wp2_with fail
              go_roundw
              case rel =>
                refine ⟨k + 1, by omega, by go_num, fun j hj => ?_, by repeat (first | with_reducible exact G0.out | with_reducible refine Gr.alloc _ ?_ | with_reducible refine Gr.xt _ _ ?_)⟩
                by_cases e : j = k
                · subst e; exact ⟨fun hu => absurd hu (by simpa using UU.out), fun ho => by rw [OO.out] at ho; cases ho⟩
                · exact HA.out j (by omega)
              case measure => simp [intOf]; omega
          | true =>
            have OA := Lib.hid (OO.out)
            clear uu u1 UU
            by_cases hp : 0 ≤ l[k].parent
            · obtain ⟨p, hpp⟩ := Int.eq_ofNat_of_zero_le hp
              have PP := Lib.hid hpp
              rw [hpp] at c0 p1
              clear hpp hp c0w c0x
              have hpl : p < l.length := by omega
              have hpo : p < r.on.length := by omega
              have g3 : (p : Int) < r.on.length := by omega
              have g4 : (p : Int) < l.length := by omega
              have g5 : (p : Int) < r.level.length := by omega
              have g6 : (0 : Int) ≤ p := by omega
              obtain ⟨bo2, oo2, e, r2⟩ := (H1.out.giB HG.out).one p hpo
              cases e
              unfold RB at r2
              have r2' : r.on[p] = onAt r p := (onAt_eq hpo).symm
              rw [r2'] at r2
              clear r2'
              have vk := vlt_wide HR.out k hlt
              have vp := vlt_wide HR.out p hpl
              obtain ⟨b_, o_, b2, o2, b3, o3, cl3, n3, e, rfl, k1, k2, k3, k4⟩ := volt_cells (sups_gr H.out HG.out) (H2.out.giI HG.out) HR.out k hlt
              cases e
              obtain ⟨b_, o_, b2_, o2_, b5, o5, cl5, n5, e, e', m1, m2, m3, m4⟩ := volt_cells (sups_gr H.out HG.out) (H2.out.giI HG.out) HR.out p hpl
              cases e
              cases e'
              have y1 := has_of_cell k2
              have y2 := has_of_cell k4
              have y3 := has_of_cell m4
              have k3' : (n3 : Int) < l[k].levels.length := by omega
              have m3' : (n5 : Int) < l[p].levels.length := by omega
              have k0' : (0 : Int) ≤ n3 := by omega
              have m0' : (0 : Int) ≤ n5 := by omega
              have qav : Value.slice av l[k].levels.length cv = .slice (some ⟨b3, o3, none⟩) l[k].levels.length cl3 := by rw [q1] at k1; simpa using k1
              cases qav
              clear k1
              obtain ⟨op, hop⟩ : ∃ op : Bool, onAt r p = op := ⟨_, rfl⟩
              rw [hop] at r2
              have OP := Lib.hid hop
              clear hop
              cases op with
              | false =>
                go_wp2_with fail
                refine wp_region_grows (by kernel_rfl) (by kernel_rfl) ?_
                repeat (go_big_quiet_step (fail))
                refine wpQuiet_nil ?_
                rintro _ ⟨⟨O5, d5⟩, rfl⟩
                go_wp2_with fail
                go_ret
                exact ⟨ret_bool (dec_false (not_meet_at hlt (fun hm => by have := ((hm.2 OA.out hlt).2 (by rw [PP.out]; omega)).1; rw [PP.out, Int.toNat_natCast, OP.out] at this; cases this))), by repeat (first | with_reducible exact HG.out | with_reducible refine Gr.alloc _ ?_ | with_reducible refine Gr.xt _ _ ?_)⟩
              | true =>
                by_cases hv : vlt l r k + l[k].dropout ≤ vlt l r p
                · have HV := Lib.hid hv
                  have hvb : decide (vlt l r p < vlt l r k + l[k].dropout) = false := by simp; omega
                  clear hv
                  by_cases hcap : ld l d k ≤ l[k].capacity
                  · have HC := Lib.hid hcap
                    have hcb : decide (l[k].capacity < ld l d k) = false := by simp; exact hcap
                    clear hcap
                    go_wp2_with fail
                    refine wp_region_grows (by kernel_rfl) (by kernel_rfl) ?_
                    repeat (go_big_quiet_step (fail))
                    refine wpQuiet_nil ?_
                    rintro _ ⟨⟨O5, d5⟩, rfl⟩
                    go_wp2_with fail
                    go_roundw
                    case rel =>
                      refine ⟨k + 1, by omega, by go_num, fun j hj => ?_, by repeat (first | with_reducible exact G0.out | with_reducible refine Gr.alloc _ ?_ | with_reducible refine Gr.xt _ _ ?_)⟩
                      by_cases e : j = k
                      · subst e; exact ⟨fun _ => OA.out, fun _ _ => ⟨HC.out, fun _ => by rw [PP.out, Int.toNat_natCast]; exact ⟨OP.out, HV.out⟩⟩⟩
                      · exact HA.out j (by omega)
                    case measure => simp [intOf]; omega
                  · have HC := Lib.hid hcap
                    have hcb : decide (l[k].capacity < ld l d k) = true := by simp; omega
                    clear hcap
                    go_wp2_with fail
                    refine wp_region_grows (by kernel_rfl) (by kernel_rfl) ?_
                    repeat (go_big_quiet_step (fail))
                    refine wpQuiet_nil ?_
                    rintro _ ⟨⟨O5, d5⟩, rfl⟩
                    go_wp2_with fail
                    go_ret
                    exact ⟨ret_bool (dec_false (not_meet_at hlt (fun hm => by have := (hm.2 OA.out hlt).1; have := HC.out; omega))), by repeat (first | with_reducible exact HG.out | with_reducible refine Gr.alloc _ ?_ | with_reducible refine Gr.xt _ _ ?_)⟩
                · have HV := Lib.hid hv
                  have hvb : decide (vlt l r p < vlt l r k + l[k].dropout) = true := by simp; omega
                  clear hv
                  go_wp2_with fail
                  refine wp_region_grows (by kernel_rfl) (by kernel_rfl) ?_
                  repeat (go_big_quiet_step (fail))
                  refine wpQuiet_nil ?_
                  rintro _ ⟨⟨O5, d5⟩, rfl⟩
                  go_wp2_with fail
                  go_ret
                  exact ⟨ret_bool (dec_false (not_meet_at hlt (fun hm => by have := ((hm.2 OA.out hlt).2 (by rw [PP.out]; omega)).2; rw [PP.out, Int.toNat_natCast] at this; have := HV.out; omega))), by repeat (first | with_reducible exact HG.out | with_reducible refine Gr.alloc _ ?_ | with_reducible refine Gr.xt _ _ ?_)⟩
            · have HP := Lib.hid hp
              have hpb : decide (0 ≤ l[k].parent) = false := by simp; omega
              clear hp
              by_cases hcap : ld l d k ≤ l[k].capacity
              · have HC := Lib.hid hcap
                have hcb : decide (l[k].capacity < ld l d k) = false := by simp; exact hcap
                clear hcap
                go_wp2_with fail
                refine wp_region_grows (by kernel_rfl) (by kernel_rfl) ?_
                repeat (go_big_quiet_step (fail))
                refine wpQuiet_nil ?_
                rintro _ ⟨⟨O5, d5⟩, rfl⟩
                go_wp2_with fail
                go_roundw
                case rel =>
                  refine ⟨k + 1, by omega, by go_num, fun j hj => ?_, by repeat (first | with_reducible exact G0.out | with_reducible refine Gr.alloc _ ?_ | with_reducible refine Gr.xt _ _ ?_)⟩
                  by_cases e : j = k
                  · subst e; exact ⟨fun _ => OA.out, fun _ _ => ⟨HC.out, fun q => by have := HP.out; omega⟩⟩
                  · exact HA.out j (by omega)
                case measure => simp [intOf]; omega
              · have HC := Lib.hid hcap
                have hcb : decide (l[k].capacity < ld l d k) = true := by simp; omega
                clear hcap
                go_wp2_with fail
                refine wp_region_grows (by kernel_rfl) (by kernel_rfl) ?_
                repeat (go_big_quiet_step (fail))
                refine wpQuiet_nil ?_
                rintro _ ⟨⟨O5, d5⟩, rfl⟩
                go_wp2_with fail
                go_ret
                exact ⟨ret_bool (dec_false (not_meet_at hlt (fun hm => by have := (hm.2 OA.out hlt).1; have := HC.out; omega))), by repeat (first | with_reducible exact HG.out | with_reducible refine Gr.alloc _ ?_ | with_reducible refine Gr.xt _ _ ?_)⟩
        · have hAll : ∀ j, j < l.length → MeetAt l d r j := fun j hj => HA.out j (by omega)
          have HAll := Lib.hid hAll
          clear hAll HA
          by_cases ha : AnyOf (fun x => ¬ DrawAt l r x) d
          · have HA := Lib.hid ha
            go_wp2_with fail
            refine (containsMet_any w.heap.size (w.heap.size + 1) d a3 c3 _ _ (drws_gr H3.out HG.out) f3 (meets1_any l r d w.heap.size (w.heap.size + 1) ao a1 a2 cap c1 c2 _ e0 e2 (sups_gr H.out HG.out) (H2.out.giI HG.out) HR.out HD.out)).mono ?_
            rw [decide_eq_true ha]
            clear ha
            rintro e w' ⟨rfl, O6, d6, rfl⟩
            go_wp2_with fail
            go_ret
            refine ⟨ret_bool (dec_false ?_), by repeat (first | with_reducible exact HG.out | with_reducible refine Gr.alloc _ ?_ | with_reducible refine Gr.xt _ _ ?_)⟩
            obtain ⟨m, hm, q⟩ := HA.out
            exact not_draw_at hm q
          · have HA := Lib.hid ha
            go_wp2_with fail
            refine (containsMet_any w.heap.size (w.heap.size + 1) d a3 c3 _ _ (drws_gr H3.out HG.out) f3 (meets1_any l r d w.heap.size (w.heap.size + 1) ao a1 a2 cap c1 c2 _ e0 e2 (sups_gr H.out HG.out) (H2.out.giI HG.out) HR.out HD.out)).mono ?_
            rw [decide_eq_false ha]
            clear ha
            rintro e w' ⟨rfl, O6, d6, rfl⟩
            go_wp2_with fail
            go_ret
            exact ⟨ret_bool (dec_true ⟨HAll.out, fun j hj => Classical.byContradiction fun q => HA.out ⟨j, hj, q⟩⟩), by repeat (first | with_reducible exact HG.out | with_reducible refine Gr.alloc _ ?_ | with_reducible refine Gr.xt _ _ ?_)⟩
    · have hdb : decide (DrwsOk l d) = false := by simp [hd]
      have e : decide (MeetsAll l r d) = false := by simp [MeetsAll, hd]
      rw [e]
      clear hd e
      go_enter Try.func39, Try.ntmps39
      go_wp2_with fail
      refine (rails_any l r ao a1 a2 cap c1 c2 _ (sups_gr H.out (by repeat (first | with_reducible exact Gr.refl _ | with_reducible refine Gr.alloc _ ?_ | with_reducible refine Gr.xt _ _ ?_))) HF.out (H1.out.giB (by repeat (first | with_reducible exact Gr.refl _ | with_reducible refine Gr.alloc _ ?_ | with_reducible refine Gr.xt _ _ ?_))) (H2.out.giI (by repeat (first | with_reducible exact Gr.refl _ | with_reducible refine Gr.alloc _ ?_ | with_reducible refine Gr.xt _ _ ?_))) f1 f2).mono ?_
      rw [hrb]
      rintro e w' ⟨rfl, O1, d1, rfl⟩
      go_wp2_with fail
      refine (draws_any l d ao a3 cap c3 _ (sups_gr H.out (by repeat (first | with_reducible exact Gr.refl _ | with_reducible refine Gr.alloc _ ?_ | with_reducible refine Gr.xt _ _ ?_))) HF.out (drws_gr H3.out (by repeat (first | with_reducible exact Gr.refl _ | with_reducible refine Gr.alloc _ ?_ | with_reducible refine Gr.xt _ _ ?_))) f3).mono ?_
      rw [hdb]
      rintro e w' ⟨rfl, O2, d2, rfl⟩
      go_wp2_with fail
      go_ret
      exact ⟨rfl, by repeat (first | with_reducible exact Gr.refl _ | with_reducible refine Gr.alloc _ ?_ | with_reducible refine Gr.xt _ _ ?_)⟩
  · have hrb : decide (RlsOk l r) = false := by simp [hr]
    have e : decide (MeetsAll l r d) = false := by simp [MeetsAll, hr]
    rw [e]
    clear hr e
    go_enter Try.func39, Try.ntmps39
    go_wp2_with fail
    refine (rails_any l r ao a1 a2 cap c1 c2 _ (sups_gr H.out (by repeat (first | with_reducible exact Gr.refl _ | with_reducible refine Gr.alloc _ ?_ | with_reducible refine Gr.xt _ _ ?_))) HF.out (H1.out.giB (by repeat (first | with_reducible exact Gr.refl _ | with_reducible refine Gr.alloc _ ?_ | with_reducible refine Gr.xt _ _ ?_))) (H2.out.giI (by repeat (first | with_reducible exact Gr.refl _ | with_reducible refine Gr.alloc _ ?_ | with_reducible refine Gr.xt _ _ ?_))) f1 f2).mono ?_
    rw [hrb]
    rintro e w' ⟨rfl, O1, d1, rfl⟩
    go_wp2_with fail
    go_ret
    exact ⟨rfl, by repeat (first | with_reducible exact Gr.refl _ | with_reducible refine Gr.alloc _ ?_ | with_reducible refine Gr.xt _ _ ?_)⟩
theorem cloneB_any (vs : List Bool) (ao : Option Addr) (cap : Nat) (w : World) (h : SlOf 1 RB w ao vs) (hf : Fit vs.length) :
    Calls Try.prog 71 #[.slice ao vs.length cap] w (GivesOwn w 4 (bools vs)) := by
  unfold Fit at hf
  have H := Lib.hid h
  clear h
  obtain ⟨i0, hi, hz0, hz1, hz2⟩ := info_parts infoBool
  cases ao with
  | none =>
    have := sl_none H.out
    subst this
    have he : ∀ w : World, (binOp .eql 29 (.slice none 0 cap) (.slice none 0 0)).run Try.prog w = .ok (.bool true) w := fun _ => rfl
    simp only [List.length_nil]
    go_enter Try.func71, Try.ntmps71
    go_wp2_with fail
    go_ret
    exact ⟨none, 0, rfl, Nat.le_refl _, .inl rfl, Gr.refl _⟩
  | some a =>
    obtain ⟨b, o, s⟩ := a
    have he : ∀ w : World, (binOp .eql 29 (.slice (some ⟨b, o, s⟩) vs.length cap) (.slice none 0 0)).run Try.prog w = .ok (.bool false) w := fun _ => rfl
    go_enter Try.func71, Try.ntmps71
    go_wp2_with (at_builtin; refine wpList_append_own _ rfl _ _ 29 rfl w.heap.size 4 i0 (.bool false) 1 1 Try.underlying29 hi hz0 hz1 hz2 rfl (by decide) _ 0 [] rfl (World.ownsRow_made w #[] 0 (Nat.le_refl _) (by simp) rfl) ⟨b, o, s⟩ vs.length cap (bools vs) rfl (by simp [bools]) (slB_cells (H.out.giB ((Gr.refl _).alloc _))) (bools_one vs) (by unfold maxLen; omega) (by omega) (by simp) ?_; intro v' w1 hown' hgrow hnil)
    obtain ⟨a, c, rfl, hc, ho⟩ := owns_own1 hown'
    rw [Nat.zero_add] at hc ⊢
    rw [List.nil_append] at ho
    go_ret
    exact ⟨a, c, by rw [bools_len]; rfl, by rw [bools_len]; exact hc, ho, ((Gr.refl w).alloc _).grown hgrow (fun k e => by cases e; exact Nat.le_refl _)⟩
theorem cloneI_any (vs : List Int) (ao : Option Addr) (cap : Nat) (w : World) (h : SlOf 1 RI w ao vs) (hf : vs.length ≤ 1000000) :
    Calls Try.prog 72 #[.slice ao vs.length cap] w (GivesOwn w 3 (nums vs)) := by
  have H := Lib.hid h
  clear h
  obtain ⟨i0, hi, hz0, hz1, hz2⟩ := info_parts infoInt
  cases ao with
  | none =>
    have := sl_none H.out
    subst this
    have he : ∀ w : World, (binOp .eql 22 (.slice none 0 cap) (.slice none 0 0)).run Try.prog w = .ok (.bool true) w := fun _ => rfl
    simp only [List.length_nil]
    go_enter Try.func72, Try.ntmps72
    go_wp2_with fail
    go_ret
    exact ⟨none, 0, rfl, Nat.le_refl _, .inl rfl, Gr.refl _⟩
  | some a =>
    obtain ⟨b, o, s⟩ := a
    have he : ∀ w : World, (binOp .eql 22 (.slice (some ⟨b, o, s⟩) vs.length cap) (.slice none 0 0)).run Try.prog w = .ok (.bool false) w := fun _ => rfl
    go_enter Try.func72, Try.ntmps72
    go_wp2_with (at_builtin; refine wpList_append_own _ rfl _ _ 22 rfl w.heap.size 3 i0 (.int .i64 0) 1 8 Try.underlying22 hi hz0 hz1 hz2 rfl (by decide) _ 0 [] rfl (World.ownsRow_made w #[] 0 (Nat.le_refl _) (by simp) rfl) ⟨b, o, s⟩ vs.length cap (nums vs) rfl (by simp [nums]) (slI_cells (H.out.giI ((Gr.refl _).alloc _))) (nums_one vs) (by unfold maxLen; omega) (by omega) (by simp) ?_; intro v' w1 hown' hgrow hnil)
    obtain ⟨a, c, rfl, hc, ho⟩ := owns_own1 hown'
    rw [Nat.zero_add] at hc ⊢
    rw [List.nil_append] at ho
    go_ret
    exact ⟨a, c, by rw [nums_len]; rfl, by rw [nums_len]; exact hc, ho, ((Gr.refl w).alloc _).grown hgrow (fun k e => by cases e; exact Nat.le_refl _)⟩
theorem xt_swap (W : World) (o o' : Obj) (O : Array Obj) (d d' k : Nat) (hk : k ≠ W.heap.size) : (xt (W.alloc o) O d).heap[k]? = (xt (W.alloc o') O d').heap[k]? := by
  simp only [xt, World.alloc, Array.getElem?_append, Array.size_push, Array.getElem?_push, hk, if_false]
theorem RowS.swap {W : World} {o o' : Obj} {O : Array Obj} {d d' B T : Nat} {vs : List Value} (h : RowS (Ytoenkcojfogmmaa.xt (W.alloc o) O d) B T vs) (hb : B ≠ W.heap.size) : RowS (Ytoenkcojfogmmaa.xt (W.alloc o') O d') B T vs := by
  obtain ⟨r, h⟩ := h
  exact ⟨r, (xt_swap W o' o O d' d B hb).trans h⟩
theorem Own1.swap {base : Nat} {W : World} {o o' : Obj} {O : Array Obj} {d d' T : Nat} {vs : List Value} {a : Option Addr} (h : Own1 base (xt (W.alloc o) O d) T vs a) (hb : W.heap.size < base) : Own1 base (xt (W.alloc o') O d') T vs a := by
  rcases h with h | ⟨B, e, hB, h⟩
  · exact .inl h
  · exact .inr ⟨B, e, hB, h.swap (by omega)⟩
def GivesRls (w : World) (r : Rls) (e : Ending) (w' : World) : Prop :=
  ∃ a1 c1 a2 c2, e = .returned (.agg #[.slice a1 r.on.length c1, .slice a2 r.level.length c2]) ∧ r.on.length ≤ c1 ∧ r.level.length ≤ c2 ∧ Own1 w.heap.size w' 4 (bools r.on) a1 ∧ Own1 w.heap.size w' 3 (nums r.level) a2 ∧ Gr w w'
theorem copied_any (r : Rls) (a1 a2 : Option Addr) (c1 c2 : Nat) (w : World) (h1 : SlOf 1 RB w a1 r.on) (h2 : SlOf 1 RI w a2 r.level) (f1 : r.on.length ≤ 1000000) (f2 : r.level.length ≤ 1000000) :
    Calls Try.prog 41 #[.agg #[.slice a1 r.on.length c1, .slice a2 r.level.length c2]] w (GivesRls w r) := by
  have H1 := Lib.hid h1
  have H2 := Lib.hid h2
  clear h1 h2
  go_enter Try.func41, Try.ntmps41
  go_wp2_with fail
  go_region_with (first
    | (go_at_call 71; refine (cloneB_any r.on a1 c1 _ (H1.out.giB (by repeat (first | with_reducible exact Gr.refl _ | with_reducible refine Gr.alloc _ ?_ | with_reducible refine Gr.xt _ _ ?_ | with_reducible refine Gr.drew ?_))) (by unfold Fit; omega)).mono ?_; rintro e w' ⟨a3, c3, rfl, hc3, ho, O, d, rfl⟩; rw [bools_len] at hc3 ⊢; have O1 := Lib.hid ho; clear ho)
    | (go_at_call 72; refine (cloneI_any r.level a2 c2 _ (H2.out.giI (by repeat (first | with_reducible exact Gr.refl _ | with_reducible refine Gr.alloc _ ?_ | with_reducible refine Gr.xt _ _ ?_ | with_reducible refine Gr.drew ?_))) f2).mono ?_; rintro e w' ⟨a4, c4, rfl, hc4, ho, O', d', rfl⟩; rw [nums_len] at hc4 ⊢; have O2 := Lib.hid ho; clear ho))
  all_goals go_wp2_with fail
  all_goals
    refine bodyPost_ret (v := .agg #[.slice a3 r.on.length c3, .slice a4 r.level.length c4]) ?_ rfl ?_
    · simp [results, Try.results41, go_sem]
    · have q1 := O1.out.gr ((Gr.refl _).xt O' d')
      have q2 := O2.out
      simp only [xt_xt, xt_drew] at q1 q2
      refine ⟨a3, c3, a4, c4, rfl, hc3, hc4, (Own1.swap q1 (by simp <;> omega)).low (by simp <;> omega), (Own1.swap q2 (by simp <;> omega)).low (by simp <;> omega), by repeat (first | with_reducible exact Gr.refl _ | with_reducible refine Gr.alloc _ ?_ | with_reducible refine Gr.xt _ _ ?_ | with_reducible refine Gr.drew ?_)⟩
end Go.Proofs.Ytoenkcojfogmmaa
