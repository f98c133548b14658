/- What TuningChecks needs besides: the program accepts its own refutation; branches that stay, and one more. -/
import Derived.Test.YtenehghpmnajpaaDoorPcD
import Derived.Test.YtenehghpmnajpaaDoorEqB
import Derived.Test.YtenehghpmnajpaaDoorRaA
import Derived.Test.YtenehghpmnajpaaDoorBnB
set_option linter.unusedVariables false
set_option linter.unusedSimpArgs false
namespace Go.Proofs.YtenehghpmnajpaaDoor
open Go.RowKit
open Classical

theorem refS_prg2 {l : List Clk} {ms : List Lmt} (hc : cchk l = 0) (hm : LsOk l ms) (hn : ∀ s, SetOk l s → meetS l ms s = false) : prgAns l ms (refS l ms) = true := by
  have hn' : NoExt l ms (startS l) := fun s hs _ => hn s hs
  have h2 := refB_pos l ms (opens (startS l)) (startS l) 0
  unfold prgAns
  rw [show prgChk l ms (refS l ms) = true from prgChk_refB hc hm hn' (by omega), Bool.and_true, decide_eq_true_iff]
  intro e
  unfold refS at e
  rw [e] at h2
  simp at h2
theorem ans_same (l : List Clk) (ms : List Lmt) (b : List Brn) : prgAns l ms b = refAns l ms b := by
  unfold prgAns refAns
  cases b with
  | nil => simp
  | cons x xs => rw [chk_same (by simp)]
theorem ans_nil (l : List Clk) (ms : List Lmt) : prgAns l ms [] = false := by unfold prgAns; simp
theorem ans_more {l : List Clk} {ms : List Lmt} {b : List Brn} {x : Brn} (hb : 0 < b.length) (h : prgAns l ms b = true) : prgAns l ms (b ++ [x]) = false := by
  unfold prgAns at h ⊢
  rw [Bool.and_eq_true] at h
  rw [chk_more hb h.2, Bool.and_false]
theorem ans_none {l : List Clk} {ms : List Lmt} {b : List Brn} (hc : cchk l = 0) (hm : LsOk l ms) (h : prgAns l ms b = true) : ∀ s, SetOk l s → meetS l ms s = false := by
  unfold prgAns at h
  rw [Bool.and_eq_true, decide_eq_true_iff] at h
  have hb : 0 < b.length := List.length_pos_iff.2 h.1
  obtain ⟨σ, hg⟩ := good_of_prg hb h.2
  exact good_none hc hm hb hg
/-- An append whose guard says yes. -/
theorem wpList_append_getsG {P : Program} {ops : Array Oper} {rest : List Oper} {o : Oper} {a : Act} {w : World} {Q : Exit → Act → World → Prop} (hw : Region.wanted o (yielded ops a.tmps) = true) (s x : Operand) (t : TypeId)
    (ho : o.op = .call { callee := .builtin .append, args := #[s, x], argTypes := #[t, t] }) (base : Nat) (e : TypeId) (i : TypeInfo) (z : Value) (size bytes : Nat) (ht : P.underlying t = some (.slice e)) (hi : P.info? e = some i) (hz : i.zero = some z) (hs : i.size = size) (hb : i.bytes = bytes) (hzs : z.cells.size = size) (h0 : 0 < size)
    (v : Value) (n : Nat) (xs : List Value) (hv : a.eval s = v) (hown : w.ownsRow base e size v n xs) (A : Option Addr) (m c : Nat) (news : List Value) (hx : a.eval x = .slice A m c) (hg : Gets w A m size news) (h1 : ∀ u ∈ news, u.oneCell' = true) (h63 : n + m ≤ maxLen) (hbytes : (n + m) * bytes ≤ 140737488355328) (hbase : base ≤ w.heap.size)
    (h : ∀ v' w', w'.ownsRow base e size v' (n + m) (xs ++ news) → w.grownBy w' v.ownBlock → (v'.ownBlock = v.ownBlock ∨ v'.ownBlock = some w.heap.size) → wpList P ops Q rest (a.put o.dst v') w') : wpList P ops Q (o :: rest) a w :=
  BigFrame.wpList_want hw fun _ hK => wp_append_gets w s x t ho base e i z size bytes ht hi hz hs hb hzs h0 v n xs hv hown A m c news hx hg h1 h63 hbytes hbase fun v' w' q1 q2 q3 => hK _ _ (h v' w' q1 q2 q3)
theorem NextAt.gr2 {base : Nat} {w w' : World} {xs : List BT} (h : NextAt base w xs) (hg : Gr w w') : NextAt base w' xs := fun x hx => ⟨(h x hx).1.gr hg, (h x hx).2⟩
theorem BrnsAt.mvd {b len base : Nat} {w w' : World} {v : Value} {xs : List BT} (h : BrnsAt base w v xs) (m : Mv b len w w') (hb : b < base) : BrnsAt base w' v xs := ⟨m.owns h.1 hb, fun x hx => ⟨m.own1 (h.2 x hx).1 hb, (h.2 x hx).2⟩⟩
theorem BrnsAt.gr2 {base : Nat} {w w' : World} {v : Value} {xs : List BT} (h : BrnsAt base w v xs) (hg : Gr w w') : BrnsAt base w' v xs := ⟨Gr.owns h.1 hg, NextAt.gr2 h.2 hg⟩
theorem encNs_one (xs : List BT) : ∀ u ∈ xs.flatMap encN, u.oneCell' = true := by
  intro u hu
  obtain ⟨x, _, hx⟩ := List.mem_flatMap.1 hu
  simp only [encN, List.mem_cons, List.not_mem_nil, or_false] at hx
  rcases hx with rfl | rfl | rfl <;> rfl
theorem gets_brns {w : World} {base n c : Nat} {a : Option Addr} {xs : List BT} (hn : xs.length = n) (h : w.ownsRow base 76 3 (.slice a n c) n (xs.flatMap encN)) : Gets w a n 3 (xs.flatMap encN) := by
  refine ⟨by rw [flat_len encN 3 (fun _ => rfl), hn], fun h0 => ?_⟩
  obtain ⟨g, e, hc⟩ := own_cells h (by omega)
  exact ⟨_, e, hc⟩
/-- One more branch, without a list. -/
theorem brns_snoc {base base' : Nat} {w : World} {A : Option Addr} {cap n : Nat} {xs : List BT} {us : List Value} (hn : xs.length = n) (h : w.ownsRow base 76 3 (.slice A (n + 1) cap) (n + 1) us) (he : us = xs.flatMap encN ++ [.int .i64 0, .int .i64 0, .slice none 0 0]) (hx : NextAt base' w xs) (hb : base' ≤ base) (hw : ∀ x ∈ xs.map (·.1), BrnW x) : SlOf 3 RBrn w A (xs.map (·.1) ++ [⟨0, 0, []⟩]) := by
  subst hn he
  have e : xs.flatMap encN ++ [Value.int .i64 0, .int .i64 0, .slice none 0 0] = (xs ++ [((⟨0, 0, []⟩, none, 0) : BT)]).flatMap encN := by simp [encN]
  rw [e] at h
  have hl : (xs ++ [((⟨0, 0, []⟩, none, 0) : BT)]).length = xs.length + 1 := by simp
  have h2 : BrnsAt base' w (.slice A (xs ++ [((⟨0, 0, []⟩, none, 0) : BT)]).length cap) (xs ++ [(⟨0, 0, []⟩, none, 0)]) := by
    refine ⟨?_, fun x hx' => ?_⟩
    · rw [hl]; exact owns_low h hb
    · rcases List.mem_append.1 hx' with q | q
      · exact hx x q
      · rw [List.mem_singleton.1 q]; exact ⟨.inl rfl, Nat.le_refl _⟩
  have := brns_at h2 (fun x hx' => by
    rw [List.map_append] at hx'
    rcases List.mem_append.1 hx' with q | q
    · exact hw x q
    · have : x = (⟨0, 0, []⟩ : Brn) := by simpa using q
      subst this
      exact ⟨⟨by show (-1 : Int) ≤ 0; omega, by show (0 : Int) ≤ 1000; omega⟩, ⟨by show (0 : Int) ≤ 0; omega, by show (0 : Int) ≤ 1000; omega⟩, by simp, by simp⟩)
  simpa using this
end Go.Proofs.YtenehghpmnajpaaDoor
