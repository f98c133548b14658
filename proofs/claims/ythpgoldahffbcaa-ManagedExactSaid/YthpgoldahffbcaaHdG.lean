/- append of so many zero values onto nil; slices.Grow of nil; slices.Concat of two lists of holds. -/
import Derived.Test.YthpgoldahffbcaaHdE
set_option linter.unusedVariables false
set_option linter.unusedSimpArgs false
namespace Go.Proofs.Ythpgoldahffbcaa
open Go.RowKit
theorem run_append_zeros {P : Program} (w : World) (t u ty e : TypeId) (i : TypeInfo) (z : Value) (ht : P.underlying t = some (.slice e)) (hu : P.underlying u = some (.int .i64)) (hi : P.info? e = some i) (hz : i.zero = some z) (hs : 0 < i.size)
    (n : Nat) (h0 : 0 < n) (h63 : n ≤ 1000000) (hb : i.bytes ≤ 1000) :
    (Builtin.append_ #[t, u] ty #[.slice none 0 0, .int .i64 n]).run P w = .ok (.slice (some ⟨w.heap.size, 0, none⟩) n (grownCap w n 0 e)) (w.drew.alloc (.cells (Builtin.zeroCells z.cells n ++ Builtin.zeroCells z.cells (grownCap w n 0 e - n)) e)) := by
  have hmul : n * i.bytes ≤ 1000000 * 1000 := Nat.mul_le_mul h63 hb
  have h1 : ¬ ((n : Int) < 0) := by omega
  have h2 : ¬ (281474976710656 < (n : Int) * (i.bytes : Int)) := by
    have : (n : Int) * (i.bytes : Int) = ((n * i.bytes : Nat) : Int) := by simp
    rw [this]; omega
  have h3 : ¬ (n ≤ 0) := by omega
  have h3' : n ≠ 0 := by omega
  have h4 : ¬ (9223372036854775807 < (n : Int)) := by omega
  have h5 : ¬ (281474976710656 < Builtin.nextslicecap n 0 * i.bytes) := by
    have := growslice_fits (need := n) (old := 0) (bytes := i.bytes) h0 (by omega)
    omega
  have h6 : IntKind.i64.wrap (n : Int) = n := by rw [IntKind.wrap_i64]; omega
  have h7 : i.size ≠ 0 := by omega
  have h8 : max (n : Int) 0 = n := by omega
  have h9 : ¬ ((n : Int) ≤ 0) := by omega
  simp [Builtin.append_, run_underlying ht, run_underlying hu, sizeOf, typeInfo, zeroValue, hi, hz, Builtin.lenOf, Builtin.firstCells, h1, h2, h3, h3', h4, h5, h6, h7, Question.forced, newRow, grownCap, asInt, asIntOf, h8, h9]
  intro h; have := Nat.mul_pos h0 hs; omega
theorem wpList_append_zeros {P : Program} (w : World) {ops : Array Oper} {rest : List Oper} {o : Oper} {a : Act} {Q : Exit → Act → World → Prop} (hgd : o.guard = none) (s x : Operand) (t u : TypeId)
    (ho : o.op = .call { callee := .builtin .append, args := #[s, x], argTypes := #[t, u] }) (e : TypeId) (i : TypeInfo) (z : Value) (ht : P.underlying t = some (.slice e)) (hu : P.underlying u = some (.int .i64)) (hi : P.info? e = some i) (hz : i.zero = some z) (hs : 0 < i.size)
    (n : Nat) (hv : a.eval s = .slice none 0 0) (hx : a.eval x = .int .i64 n) (h0 : 0 < n) (h63 : n ≤ 1000000) (hb : i.bytes ≤ 1000)
    (h : ∀ cap, n ≤ cap → cap ≤ maxLen → wpList P ops Q rest (a.put o.dst (.slice (some ⟨w.heap.size, 0, none⟩) n cap)) (w.drew.alloc (.cells (Builtin.zeroCells z.cells n ++ Builtin.zeroCells z.cells (cap - n)) e))) : wpList P ops Q (o :: rest) a w := by
  refine wpList_plain hgd fun _ hK => ?_
  have hr := run_append_zeros (P := P) w t u o.type e i z ht hu hi hz hs n h0 h63 hb
  unfold Oper.wp execOp
  simp only [ho, resolve, invoke, builtin, Sem.run_bind, Sem.run_pure, Result.andThen_ok, List.map_toArray, List.map_cons, List.map_nil, hv, hx, hr]
  exact hK _ _ (h _ (grownCap_ge w n 0 e) (grownCap_le_maxLen w n 0 e (by unfold maxLen; omega)))
set_option maxHeartbeats 1000000 in
theorem growH_any (n : Nat) (hn : n ≤ 1000000) (w : World) : Calls Try.prog 45 #[.slice none 0 0, .int .i64 n] w (GivesH w []) := by
  obtain ⟨i0, hi, hz0, hz1, hz2⟩ := info_parts infoHld
  by_cases h0 : 0 < n
  · have g0 : (0 : Int) < n := by omega
    go_enter Try.func45, Try.ntmps45
    go_wp2_with (at_builtin; refine wpList_append_zeros _ rfl _ _ 24 3 rfl 34 i0 _ Try.underlying24 Try.underlying3 hi hz0 (by rw [hz1]; decide) n rfl rfl h0 hn (by rw [hz2]; decide) ?_; intro cap hcap hcm)
    go_ret
    refine ⟨_, rfl, ⟨rfl, .inr ⟨w.heap.size, cap, _, rfl, Nat.le_refl _, Row.new w.drew _ _, Nat.zero_le _, hcm, ?_, rfl⟩⟩, (Gr.drew (Gr.refl _)).alloc _⟩
    rw [Array.size_append, size_zeroCells, size_zeroCells]
    show n * 3 + (cap - n) * 3 = cap * 3
    omega
  · obtain rfl : n = 0 := by omega
    go_enter Try.func45, Try.ntmps45
    go_wp2_with fail
    go_ret
    exact ⟨_, rfl, owns_nil _ _ _ _, Gr.refl _⟩
set_option maxHeartbeats 2000000 in
theorem concat_any (l1 l2 : List Hld) (B : Nat) (a1 a2 : Option Addr) (c1 c2 : Nat) (w : World) (e0 : w.cell? ⟨B, 0, none⟩ = some (.slice a1 l1.length c1)) (e1 : w.cell? ⟨B, 1, none⟩ = some (.slice a2 l2.length c2)) (h1 : SlOf 3 RHld w a1 l1) (h2 : SlOf 3 RHld w a2 l2) (f1 : l1.length ≤ 100000) (f2 : l2.length ≤ 100000) :
    Calls Try.prog 40 #[.slice (some ⟨B, 0, none⟩) 2 2] w (GivesH w (l1 ++ l2)) := by
  have E0 := Lib.hid e0
  have E1 := Lib.hid e1
  have H1 := Lib.hid h1
  have H2 := Lib.hid h2
  clear e0 e1 h1 h2
  obtain ⟨i0, hi, hz0, hz1, hz2⟩ := info_parts infoHld
  go_enter Try.func40, Try.ntmps40
  go_wp2_with fail
  go_loopw [3, 11] (fun s i wr => ∃ k : Nat, i = .int .i64 k ∧ Gr w wr ∧ ((k = 0 ∧ s = .int .i64 0) ∨ (k = 1 ∧ s = .int .i64 (l1.length : Int)) ∨ (k = 2 ∧ s = .int .i64 ((l1.length : Int) + l2.length)))) (fun _ i _ => 2 - (intOf i).toNat)
  case atStart => exact ⟨0, rfl, Gr.refl _, .inl ⟨rfl, rfl⟩⟩
  case round =>
    obtain ⟨k, rfl, hg, hc⟩ := hrel
    have HG0 := Lib.hid hg
    have e0 := cell_gr hg E0.out
    have e1 := cell_gr hg E1.out
    clear hg
    have eh := has_of_cell e0
    rcases hc with ⟨rfl, rfl⟩ | ⟨rfl, rfl⟩ | ⟨rfl, rfl⟩
    · have q : decide ((l1.length : Int) < 0) = false := by simp
      go_wp2_with fail
      go_roundw
      case rel => exact ⟨1, by go_num, HG0.out, .inr (.inl ⟨rfl, rfl⟩)⟩
      case measure => simp [intOf]
    · have q : decide ((l1.length : Int) + l2.length < 0) = false := by simp; omega
      go_wp2_with fail
      go_roundw
      case rel => exact ⟨2, by go_num, HG0.out, .inr (.inr ⟨rfl, rfl⟩)⟩
      case measure => simp [intOf]
    · clear e0 e1 eh
      rw [show (l1.length : Int) + l2.length = ((l1.length + l2.length : Nat) : Int) from by simp]
      go_wp2_with fail
      refine (growH_any (l1.length + l2.length) (by omega) _).mono ?_
      rintro e W1 ⟨v, rfl, ho, hg⟩
      have HO := Lib.hid (owns_low (base' := w.heap.size) ho HG0.out.size)
      have G1 := Lib.hid (HG0.out.trans hg)
      clear ho hg
      go_wp2_with fail
      go_loopw [27, 6] (fun i v wr => ∃ (k : Nat) (cur : List Hld), i = .int .i64 k ∧ ((k = 0 ∧ cur = []) ∨ (k = 1 ∧ cur = l1) ∨ (k = 2 ∧ cur = l1 ++ l2)) ∧ wr.ownsRow w.heap.size 34 3 v cur.length (encHs cur) ∧ Gr w wr) (fun i _ _ => 2 - (intOf i).toNat)
      case atStart => exact ⟨0, [], rfl, .inl ⟨rfl, rfl⟩, HO.out, G1.out⟩
      case round =>
        obtain ⟨k, cur, rfl, hc, ho, hg⟩ := hrel
        have HO2 := Lib.hid ho
        have HG := Lib.hid hg
        have e0 := cell_gr hg E0.out
        have e1 := cell_gr hg E1.out
        have eh := has_of_cell e0
        clear ho hg
        rcases hc with ⟨rfl, rfl⟩ | ⟨rfl, rfl⟩ | ⟨rfl, rfl⟩
        · go_wp2_with (at_builtin; refine wpList_append_gets _ rfl _ _ 24 rfl w.heap.size 34 i0 (.agg #[.int .i64 0, .int .i64 0, .int .i64 0]) 3 24 Try.underlying24 hi hz0 hz1 hz2 rfl (by decide) _ 0 [] rfl HO2.out a1 l1.length c1 (encHs l1) rfl (gets_sl (hlds_gr H1.out HG.out)) (encHs_one l1) (by unfold maxLen; omega) (by omega) HG.out.size ?_; intro v' wz hown' hgrow hnil; have OZ := Lib.hid hown'; have GZ := Lib.hid hgrow; clear hown' hgrow hnil)
          go_roundw
          case rel => exact ⟨1, l1, by go_num, .inr (.inl ⟨rfl, rfl⟩), by simpa using OZ.out, Gr.grown HG.out GZ.out (fun j e => (owns_block HO2.out j e).1)⟩
          case measure => simp [intOf]
        · go_wp2_with (at_builtin; refine wpList_append_gets _ rfl _ _ 24 rfl w.heap.size 34 i0 (.agg #[.int .i64 0, .int .i64 0, .int .i64 0]) 3 24 Try.underlying24 hi hz0 hz1 hz2 rfl (by decide) _ cur.length (encHs cur) rfl HO2.out a2 l2.length c2 (encHs l2) rfl (gets_sl (hlds_gr H2.out HG.out)) (encHs_one l2) (by unfold maxLen; omega) (by omega) HG.out.size ?_; intro v' wz hown' hgrow hnil; have OZ := Lib.hid hown'; have GZ := Lib.hid hgrow; clear hown' hgrow hnil)
          go_roundw
          case rel => exact ⟨2, cur ++ l2, by go_num, .inr (.inr ⟨rfl, rfl⟩), by rw [List.length_append, encHs_app]; exact OZ.out, Gr.grown HG.out GZ.out (fun j e => (owns_block HO2.out j e).1)⟩
          case measure => simp [intOf]
        · go_wp2_with fail
          go_ret
          exact ⟨_, rfl, HO2.out, HG.out⟩
end Go.Proofs.Ythpgoldahffbcaa
