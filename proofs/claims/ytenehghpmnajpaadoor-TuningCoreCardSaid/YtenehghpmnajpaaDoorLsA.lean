/- Contract of Least$1: the bits of each setting are gathered. -/
import Derived.Test.YtenehghpmnajpaaDoorVsM
set_option linter.unusedVariables false
set_option linter.unusedSimpArgs false
namespace Go.Proofs.YtenehghpmnajpaaDoor
open Go.RowKit
open Classical

theorem infoU64 : (Tryd.prog.info? 102).map (fun i => (i.zero, i.size, i.bytes)) = some (some (.int .u64 0), 1, 8) := by kernel_rfl
noncomputable def stepL (l : List Clk) (ms : List Lmt) (st : List (BitVec 64)) (s : List Int) : List (BitVec 64) := st ++ [bitsS l ms s]
def freeL (st : List (BitVec 64)) : Bool := st.any fun b => decide (b = 0)
theorem stN_stepL (l : List Clk) (ms : List Lmt) (k : Nat) : stN (stepL l ms) [] l k = (List.range k).map fun j => bitsS l ms (setN l j) := by
  induction k with
  | zero => rfl
  | succ k ih =>
    rw [stN_succ, ih, List.range_succ, List.map_append]; rfl
theorem freeL_snoc (st : List (BitVec 64)) (x : BitVec 64) : freeL (st ++ [x]) = (freeL st || decide (x = 0)) := by simp [freeL]
theorem vU64_one (st : List (BitVec 64)) : ∀ u ∈ st.map vU64, u.oneCell' = true := by
  intro u hu
  obtain ⟨x, _, rfl⟩ := List.mem_map.1 hu
  rfl
/-- What was gathered, in two variables. -/
def LieL (BS BF : Nat) (w0 : World) : Lie (List (BitVec 64)) := fun st w L => BS ∉ L ∧ BF ∉ L ∧ w0.heap.size ≤ BS ∧ w0.heap.size ≤ BF ∧ BS ≠ BF ∧ Row w BF 4 [.bool (freeL st)] ∧
  ∃ a c, Row w BS 123 [.slice a st.length c] ∧ w.ownsRow w0.heap.size 102 1 (.slice a st.length c) st.length (st.map vU64) ∧ ∀ g, (Value.slice a st.length c).ownBlock = some g → g ∉ L
theorem lieL_ok (BS BF : Nat) (w0 : World) : LieOk (LieL BS BF w0) where
  keep := fun st w w' L row h hg hr => by
    obtain ⟨a1, a2, a3, a4, a5, a6, a, c, a7, a8, a9⟩ := h
    refine ⟨a1, a2, a3, a4, a5, a6.grown hg (fun e => a2 (hr BF e.symm)), a, c, a7.grown hg (fun e => a1 (hr BS e.symm)), a8.kept hg ?_, a9⟩
    cases eo : (Value.slice a st.length c).ownBlock with
    | none => exact .inl rfl
    | some g => exact .inr (fun e => a9 g eo (hr g e.symm))
  sub := fun st w L L' h hs => by
    obtain ⟨a1, a2, a3, a4, a5, a6, a, c, a7, a8, a9⟩ := h
    exact ⟨fun q => a1 (hs _ q), fun q => a2 (hs _ q), a3, a4, a5, a6, a, c, a7, a8, fun g hg q => a9 g hg (hs _ q)⟩
set_option maxRecDepth 100000 in
set_option maxHeartbeats 2000000 in
theorem seeM (l : List Clk) (ms : List Lmt) (BS BF : Nat) (w0 : World) (hc : cchk l = 0) : SeeM (LieL BS BF w0) (stepL l ms) (fun _ => true) l ms BS BF w0 [] := by
  intro s st w L B c k hk hst hs hg hI hL hB hBL
  obtain ⟨i0, hi, hz0, hz1, hz2⟩ := info_parts infoU64
  have sl : st.length ≤ 4096 := by
    rw [hst, stN_stepL, List.length_map, List.length_range]
    have := (num_bound hs).2
    have := (cchk_zero hc).2.2.1
    omega
  have HG := Lib.hid hg
  have HL := Lib.hid hL
  obtain ⟨n1, n2, z1, z2, z3, RF, a, cc, RS, OS, n3⟩ := hI
  have RF' := Lib.hid RF
  have RS' := Lib.hid RS
  have OS' := Lib.hid OS
  have N3 := Lib.hid n3
  have N1 := Lib.hid n1
  have N2 := Lib.hid n2
  have z4 : ¬ (BF = BS) := fun e => z3 e.symm
  have z3' : ¬ (BS = BF) := z3
  have o0 := RS.cell 0 (by simp)
  have oh := RS.has
  simp only [List.getElem_cons_zero] at o0
  unfold vU64
  obtain ⟨xb, hxb⟩ : ∃ xb, bitsS l ms s = xb := ⟨_, rfl⟩
  have ST : Hid (stepL l ms st s = st ++ [xb]) := Lib.hid (by unfold stepL; rw [hxb])
  have FR : Hid (freeL (stepL l ms st s) = (freeL st || decide (xb = 0))) := Lib.hid (by rw [ST.out, freeL_snoc])
  rw [hxb]
  have ZB : Hid (((xb.toNat : Int) == 0) = decide (xb = 0)) := Lib.hid (bits_eq0 xb)
  obtain ⟨X, hX⟩ : ∃ X : Int, (xb.toNat : Int) = X := ⟨_, rfl⟩
  rw [hX] at ZB ⊢
  have VX : Hid (vU64 xb = .int .u64 X) := Lib.hid (by unfold vU64; rw [hX])
  obtain ⟨N9, hN9⟩ : ∃ N9 : Nat, Hid (w.heap.size = N9) := ⟨_, Lib.hid rfl⟩
  obtain ⟨WA, hWA⟩ : ∃ WA : World, Hid (WA = w.alloc (.cells #[.int .u64 X] 102)) := ⟨_, Lib.hid rfl⟩
  have gA : Hid (Gr w WA) := Lib.hid (by rw [hWA.out]; exact (Gr.refl _).alloc _)
  have OSa := Lib.hid (Gr.owns OS gA.out)
  have CC : Hid (∀ j u, ([.int .u64 X] : List Value)[j]? = some u → WA.cell? ((⟨N9, 0, none⟩ : Addr).add j) = some u) := Lib.hid (by
    have := row_cells (Row.new w #[.int .u64 X] 102)
    rw [← hWA.out, hN9.out] at this
    exact this)
  have one : Hid (∀ u ∈ ([.int .u64 X] : List Value), u.oneCell' = true) := Lib.hid (fun u hu => by rw [List.mem_singleton.1 hu]; rfl)
  have base : Hid (w0.heap.size ≤ WA.heap.size) := Lib.hid (HG.out.trans gA.out).size
  clear hst hk hs hg RF RS OS n3 n1 n2 hL hB hBL hX hxb
  cases hfs : freeL st with
  | true =>
    rw [hfs] at RF' FR
    have FV : Hid (freeL (stepL l ms st s) = true) := Lib.hid (by rw [FR.out, Bool.true_or])
    clear hfs FR
    go_enter Tryd.func86, Tryd.ntmps86
    go_wp2_with (first
      | (at_builtin; rw [← hWA.out, hN9.out]; refine wpList_append_gets _ rfl _ _ 123 rfl w0.heap.size 102 i0 (.int .u64 0) 1 8 Tryd.underlying123 hi hz0 hz1 hz2 rfl (by decide) (.slice a st.length cc) st.length (st.map vU64) rfl OSa.out (some ⟨N9, 0, none⟩) 1 1 [.int .u64 X] rfl ⟨rfl, fun _ => ⟨_, rfl, CC.out⟩⟩ one.out (by unfold maxLen; omega) (by omega) base.out ?_; intro v' W1 hown hgrow hblk; obtain ⟨a1, c1, rfl⟩ := owns_slice hown; have O1 := Lib.hid hown; have g1 := Lib.hid hgrow; have b1 := Lib.hid hblk; have RS1 := Lib.hid ((RS'.out.gr gA.out).grown hgrow (owns_apart OSa.out (RS'.out.gr gA.out).s (by decide))); have RF1 := Lib.hid ((RF'.out.gr gA.out).grown hgrow (owns_apart OSa.out (RF'.out.gr gA.out).s (by decide))); have s0 := RS1.out.cell 0 (by simp); have sf := RS1.out.free 0; have sh := RS1.out.has; have f0 := RF1.out.cell 0 (by simp); have ff := RF1.out.free 0; have fh := RF1.out.has; simp only [List.getElem_cons_zero] at s0 f0; clear hown hgrow hblk o0 oh hWA)
      | fail)
    go_ret
    refine ⟨rfl, ?_, ?_, ?_, ?_⟩
    · rw [ST.out]
      refine ⟨N1.out, N2.out, z1, z2, z3', ?_, a1, c1, ?_, ?_, ?_⟩
      · have := (RF1.out.oth (o := 0) (v := .slice a1 (st.length + 1) c1) z3').set 0 (.bool true)
        rw [← ST.out, FV.out]
        exact this
      · have := ((RS1.out.set 0 (.slice a1 (st.length + 1) c1)).oth (o := 0) (v := .bool true) z4)
        rw [List.length_append]
        exact this
      · have h1 := owns_set (o := 0) (x := .slice a1 (st.length + 1) c1) O1.out RS1.out.s (by decide)
        have h2 := owns_set (o := 0) (x := .bool true) h1 (RF1.out.oth (o := 0) (v := .slice a1 (st.length + 1) c1) z3').s (by decide)
        rw [List.length_append, List.map_append, List.map_cons, List.map_nil, VX.out]
        exact h2
      · intro g hg hgL
        rw [List.length_append] at hg
        have hlt : g < w.heap.size := HL.out g hgL
        rcases b1.out with q | q
        · exact N3.out g (q ▸ hg) hgL
        · have e : (Value.slice a1 (st.length + [xb].length) c1).ownBlock = some WA.heap.size := q
          rw [hg] at e
          injection e with e
          have := gA.out.size
          omega
    · exact (((HG.out.trans gA.out).grown g1.out (fun k e => (OSa.out.lt k e).1)).setc z1).setc z2
    · intro g hg
      have hlt : g < w.heap.size := HL.out g hg
      have h1 : (w.heap[g]?) = WA.heap[g]? := (gA.out.below.block g hlt).symm
      have h2 := g1.out.block g (Nat.lt_of_lt_of_le hlt gA.out.size) (fun e => N3.out g e.symm hg)
      have k1 := (grownBy_set W1 BS 0 (.slice a1 (st.length + 1) c1))
      have k2 := (grownBy_set (W1.setCell ⟨BS, 0, none⟩ (.slice a1 (st.length + 1) c1)) BF 0 (.bool true))
      have lt1 : g < W1.heap.size := Nat.lt_of_lt_of_le (Nat.lt_of_lt_of_le hlt gA.out.size) g1.out.size
      rw [k2.block g (Nat.lt_of_lt_of_le lt1 k1.size) (fun e => N2.out (by injection e with e; rw [← e]; exact hg)), k1.block g lt1 (fun e => N1.out (by injection e with e; rw [← e]; exact hg)), h2, h1]
    · have h1 := gA.out.size
      have h2 := g1.out.size
      simp only [size_set]
      omega
  | false =>
    rw [hfs] at RF' FR
    have FV : Hid (freeL (stepL l ms st s) = (X == 0)) := Lib.hid (by rw [FR.out, Bool.false_or, ZB.out])
    clear hfs FR
    go_enter Tryd.func86, Tryd.ntmps86
    go_wp2_with (first
      | (at_builtin; rw [← hWA.out, hN9.out]; refine wpList_append_gets _ rfl _ _ 123 rfl w0.heap.size 102 i0 (.int .u64 0) 1 8 Tryd.underlying123 hi hz0 hz1 hz2 rfl (by decide) (.slice a st.length cc) st.length (st.map vU64) rfl OSa.out (some ⟨N9, 0, none⟩) 1 1 [.int .u64 X] rfl ⟨rfl, fun _ => ⟨_, rfl, CC.out⟩⟩ one.out (by unfold maxLen; omega) (by omega) base.out ?_; intro v' W1 hown hgrow hblk; obtain ⟨a1, c1, rfl⟩ := owns_slice hown; have O1 := Lib.hid hown; have g1 := Lib.hid hgrow; have b1 := Lib.hid hblk; have RS1 := Lib.hid ((RS'.out.gr gA.out).grown hgrow (owns_apart OSa.out (RS'.out.gr gA.out).s (by decide))); have RF1 := Lib.hid ((RF'.out.gr gA.out).grown hgrow (owns_apart OSa.out (RF'.out.gr gA.out).s (by decide))); have s0 := RS1.out.cell 0 (by simp); have sf := RS1.out.free 0; have sh := RS1.out.has; have f0 := RF1.out.cell 0 (by simp); have ff := RF1.out.free 0; have fh := RF1.out.has; simp only [List.getElem_cons_zero] at s0 f0; clear hown hgrow hblk o0 oh hWA)
      | fail)
    go_ret
    refine ⟨rfl, ?_, ?_, ?_, ?_⟩
    · rw [ST.out]
      refine ⟨N1.out, N2.out, z1, z2, z3', ?_, a1, c1, ?_, ?_, ?_⟩
      · have := (RF1.out.oth (o := 0) (v := .slice a1 (st.length + 1) c1) z3').set 0 (.bool (X == 0))
        rw [← ST.out, FV.out]
        exact this
      · have := ((RS1.out.set 0 (.slice a1 (st.length + 1) c1)).oth (o := 0) (v := .bool (X == 0)) z4)
        rw [List.length_append]
        exact this
      · have h1 := owns_set (o := 0) (x := .slice a1 (st.length + 1) c1) O1.out RS1.out.s (by decide)
        have h2 := owns_set (o := 0) (x := .bool (X == 0)) h1 (RF1.out.oth (o := 0) (v := .slice a1 (st.length + 1) c1) z3').s (by decide)
        rw [List.length_append, List.map_append, List.map_cons, List.map_nil, VX.out]
        exact h2
      · intro g hg hgL
        rw [List.length_append] at hg
        have hlt : g < w.heap.size := HL.out g hgL
        rcases b1.out with q | q
        · exact N3.out g (q ▸ hg) hgL
        · have e : (Value.slice a1 (st.length + [xb].length) c1).ownBlock = some WA.heap.size := q
          rw [hg] at e
          injection e with e
          have := gA.out.size
          omega
    · exact (((HG.out.trans gA.out).grown g1.out (fun k e => (OSa.out.lt k e).1)).setc z1).setc z2
    · intro g hg
      have hlt : g < w.heap.size := HL.out g hg
      have h1 : (w.heap[g]?) = WA.heap[g]? := (gA.out.below.block g hlt).symm
      have h2 := g1.out.block g (Nat.lt_of_lt_of_le hlt gA.out.size) (fun e => N3.out g e.symm hg)
      have k1 := (grownBy_set W1 BS 0 (.slice a1 (st.length + 1) c1))
      have k2 := (grownBy_set (W1.setCell ⟨BS, 0, none⟩ (.slice a1 (st.length + 1) c1)) BF 0 (.bool (X == 0)))
      have lt1 : g < W1.heap.size := Nat.lt_of_lt_of_le (Nat.lt_of_lt_of_le hlt gA.out.size) g1.out.size
      rw [k2.block g (Nat.lt_of_lt_of_le lt1 k1.size) (fun e => N2.out (by injection e with e; rw [← e]; exact hg)), k1.block g lt1 (fun e => N1.out (by injection e with e; rw [← e]; exact hg)), h2, h1]
    · have h1 := gA.out.size
      have h2 := g1.out.size
      simp only [size_set]
      omega
end Go.Proofs.YtenehghpmnajpaaDoor
