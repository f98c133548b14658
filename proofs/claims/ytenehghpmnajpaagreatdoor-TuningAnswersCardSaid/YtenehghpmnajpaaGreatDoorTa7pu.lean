/- Lemmas and contracts for the proof of TuningAnswers (several texts in one, printed by wip/tools/pack.py): LeP OsA Le19 LeR BnA BnC. -/
import Derived.Test.YtenehghpmnajpaaGreatDoorTa7ps
import Derived.Test.YtenehghpmnajpaaGreatDoorTa7pq
set_option linter.unusedVariables false
set_option linter.unusedSimpArgs false
namespace Go.Proofs.YtenehghpmnajpaaGreatDoor
open Go.RowKit
open Classical
/-- All places of a list but those that were struck: 'out' after the first i places were looked at. -/
noncomputable def refGo (l : List Clk) (ms : List Lmt) : Nat → List Int
  | 0 => (List.range ms.length).map fun (k : Nat) => (k : Int)
  | i + 1 => if cntS l (coreL ms ((refGo l ms i).filter fun k => decide (k ≠ (i : Int)))) = 0 then (refGo l ms i).filter fun k => decide (k ≠ (i : Int)) else refGo l ms i
/-- The places from i on. -/
def restI (n i : Nat) : List Int := (List.range (n - i)).map fun (j : Nat) => ((i + j : Nat) : Int)
theorem restI_cons {n i : Nat} (h : i < n) : restI n i = (i : Int) :: restI n (i + 1) := by
  unfold restI
  rw [show n - i = (n - (i + 1)) + 1 by omega, List.range_succ_eq_map, List.map_cons, List.map_map]
  congr 1
  apply List.map_congr_left
  intro j _
  simp only [Function.comp]
  congr 1
  omega
theorem restI_mem {n i : Nat} {x : Int} (h : x ∈ restI n i) : (i : Int) ≤ x ∧ x < (n : Int) := by
  obtain ⟨j, hj, rfl⟩ := List.mem_map.1 h
  have := List.mem_range.1 hj
  omega
section
variable {l : List Clk} {ms : List Lmt}
theorem can_all (hb : (allB l ms).length ≤ 64) (h0 : ∀ s, SetOk l s → meetS l ms s = false) : canL l ms (BitVec.allOnes 64) = false := by
  unfold canL
  rw [decide_eq_false_iff_not]
  rintro ⟨s, hs, hz⟩
  rw [BitVec.and_allOnes] at hz
  have := h0 s hs
  rw [meetS_bits l ms s hb, hz] at this
  simp at this
/-- What the mask without a place says of the limits that are left. -/
theorem can_core (hb : (allB l ms).length ≤ 64) (hm : ms.length ≤ 32) {i : Nat} {m : BitVec 64} {out : List Int} (H : LInv l ms i m out) (hi : i < ms.length) :
    (∀ s, SetOk l s → meetS l (coreL ms (out ++ restI ms.length (i + 1))) s = false) ↔ canL l ms (lessM m i) = false := by
  have hbnd : ∀ k ∈ out ++ restI ms.length (i + 1), 0 ≤ k ∧ k < (ms.length : Int) := by
    intro k hk
    rcases List.mem_append.1 hk with hk | hk
    · have := H.bnd k hk; omega
    · have := restI_mem hk; omega
  have hget : ∀ j, j < ms.length → ((lessM m i).getLsbD j = true ↔ (j : Int) ∈ out ++ restI ms.length (i + 1)) := by
    intro j hj
    rw [lessM_get m i j (by omega), Bool.and_eq_true, decide_eq_true_iff, List.mem_append]
    rcases Nat.lt_trichotomy j i with q | q | q
    · rw [H.lo j q]
      constructor
      · exact fun h => .inl h.1
      · rintro (h | h)
        · exact ⟨h, by omega⟩
        · have := restI_mem h; omega
    · subst q
      constructor
      · exact fun h => absurd rfl h.2
      · rintro (h | h)
        · have := H.bnd _ h; omega
        · have := restI_mem h; omega
    · constructor
      · intro _
        refine .inr (List.mem_map.2 ⟨j - (i + 1), List.mem_range.2 (by omega), ?_⟩)
        omega
      · intro _
        exact ⟨H.hi j (by omega) (by omega), by omega⟩
  constructor
  · intro h
    unfold canL
    rw [decide_eq_false_iff_not]
    rintro ⟨s, hs, hz⟩
    obtain ⟨q1, q2⟩ := of_mask hb (fun j h1 h2 => by rw [lessM_get m i j (by omega), H.hi j (by omega) h2]; simp; omega) hz
    have : meetS l (coreL ms (out ++ restI ms.length (i + 1))) s = true := meetS_true.2 ⟨q1, fun x hx => by
      obtain ⟨j, hj, hmj, rfl⟩ := (coreL_at hbnd).1 hx
      exact q2 j hj ((hget j hj).2 hmj)⟩
    rw [h s hs] at this; cases this
  · intro h s hs
    cases hq : meetS l (coreL ms (out ++ restI ms.length (i + 1))) s with
    | false => rfl
    | true =>
      rw [meetS_true] at hq
      have hz : bitsS l ms s &&& lessM m i = 0 := mask_of hb hq.1 fun j hj hmj => hq.2 _ ((coreL_at hbnd).2 ⟨j, hj, (hget j hj).1 hmj, rfl⟩)
      unfold canL at h
      rw [decide_eq_false_iff_not] at h
      exact absurd ⟨s, hs, hz⟩ h
theorem refGo_eq (hc : cchk l = 0) (hb : (allB l ms).length ≤ 64) (hm : ms.length ≤ 32) (h0 : ∀ s, SetOk l s → meetS l ms s = false) : ∀ i, i ≤ ms.length → refGo l ms i = (leastGo l ms i).2 ++ restI ms.length i := by
  have hcan : canL l ms (BitVec.allOnes 64) = false := can_all hb h0
  intro i
  induction i with
  | zero =>
    intro _
    simp only [refGo, leastGo, List.nil_append, restI, Nat.sub_zero, Nat.zero_add]
  | succ i ih =>
    intro hi
    have hr := ih (by omega)
    have LI := lInv_go hcan i (by omega)
    have hbd := least_bnd l ms i
    have hfil : (refGo l ms i).filter (fun k => decide (k ≠ (i : Int))) = (leastGo l ms i).2 ++ restI ms.length (i + 1) := by
      rw [hr, restI_cons (by omega), List.filter_append, List.filter_cons]
      have e1 : (leastGo l ms i).2.filter (fun k => decide (k ≠ (i : Int))) = (leastGo l ms i).2 := by
        rw [List.filter_eq_self]
        intro k hk
        have := hbd k hk
        simp; omega
      have e2 : (restI ms.length (i + 1)).filter (fun k => decide (k ≠ (i : Int))) = restI ms.length (i + 1) := by
        rw [List.filter_eq_self]
        intro k hk
        have := restI_mem hk
        simp; omega
      rw [e1, e2]
      simp
    have hcnt : cntS l (coreL ms ((leastGo l ms i).2 ++ restI ms.length (i + 1))) = 0 ↔ canL l ms (lessM (leastGo l ms i).1 i) = false := by
      rw [cntS_zero hc]
      exact can_core hb hm LI hi
    simp only [refGo]
    rw [hfil]
    cases hcn : canL l ms (lessM (leastGo l ms i).1 i) with
    | false =>
      rw [if_pos (hcnt.2 hcn)]
      simp only [leastGo, hcn, Bool.false_eq_true, if_false]
    | true =>
      rw [if_neg (fun h => by have := hcnt.1 h; rw [hcn] at this; cases this), hr, restI_cons (by omega)]
      simp only [leastGo, hcn, if_true]
      simp
theorem refGo_end (hc : cchk l = 0) (hb : (allB l ms).length ≤ 64) (hm : ms.length ≤ 32) (h0 : ∀ s, SetOk l s → meetS l ms s = false) : refGo l ms ms.length = (leastGo l ms ms.length).2 := by
  rw [refGo_eq hc hb hm h0 _ (Nat.le_refl _)]
  simp [restI]
end
end Go.Proofs.YtenehghpmnajpaaGreatDoor

set_option linter.unusedVariables false
set_option linter.unusedSimpArgs false
namespace Go.Proofs.YtenehghpmnajpaaGreatDoor
open Go.RowKit
open Classical
theorem done_stay {done : Array Bool} {i j : Nat} (h : done.getD j false = true) : (done.setIfInBounds i true).getD j false = true := by
  by_cases e : i = j
  · subst e
    refine getD_set_same ?_
    unfold Array.getD at h
    split at h
    · assumption
    · cases h
  · simp only [Array.getD_eq_getD_getElem?, Array.getElem?_setIfInBounds] at h ⊢
    rw [if_neg e]; exact h
theorem Gets.gr {w w' : World} {a : Option Addr} {m size : Nat} {news : List Value} (h : Gets w a m size news) (hg : Gr w w') : Gets w' a m size news := by
  refine ⟨h.1, fun h0 => ?_⟩
  obtain ⟨ad, e, hc⟩ := h.2 h0
  refine ⟨ad, e, fun j u hu => ?_⟩
  have := hc j u hu
  have ee := addr_of_cell this
  rw [ee] at this ⊢
  exact cell_gr hg this
/-- What stays: the clocks, the limits, the tape. -/
structure OSt (b n : Nat) (w w1 w2 : World) (ts : List CT) (g c : Nat) (ms : List Lmt) (am : Option Addr) (cm : Nat) (W : World) : Prop where
  own : W.ownsRow w1.heap.size 79 5 (.slice (some ⟨g, 0, none⟩) ts.length c) ts.length (ts.flatMap encC)
  rows : ChRows w1.heap.size W ts
  lims : W.ownsRow w2.heap.size 35 3 (.slice am ms.length cm) ms.length (ms.flatMap encM)
  tp : Tp W b n
  gw : Gr w W
section
variable {b n : Nat} {w w1 w2 W W' : World} {ts : List CT} {g c : Nat} {ms : List Lmt} {am : Option Addr} {cm : Nat}
theorem OSt.gr (h : OSt b n w w1 w2 ts g c ms am cm W) (hg : Gr W W') : OSt b n w w1 w2 ts g c ms am cm W' :=
  ⟨Gr.owns h.own hg, fun t ht => (h.rows t ht).gr hg, Gr.owns h.lims hg, h.tp.gr hg, h.gw.trans hg⟩
theorem OSt.mv (h : OSt b n w w1 w2 ts g c ms am cm W) (h1 : b < w1.heap.size) (h2 : b < w2.heap.size) (lb : w.heap.size ≤ b) (m : Mv b n W W') : OSt b n w w1 w2 ts g c ms am cm W' :=
  ⟨m.owns h.own h1, fun t ht => (h.rows t ht).mv m h1, m.owns h.lims h2, m.tp h.tp, Mv.gr_low h.gw lb m⟩
theorem OSt.clks (h : OSt b n w w1 w2 ts g c ms am cm W) (hge : 1 ≤ ts.length) : SlOf 5 RClk W (some ⟨g, 0, none⟩) (clks ts) := by
  obtain ⟨_, _, e, _, sl⟩ := clks_at h.own h.rows (by omega)
  cases e
  exact sl
end
end Go.Proofs.YtenehghpmnajpaaGreatDoor

set_option linter.unusedVariables false
set_option linter.unusedSimpArgs false
namespace Go.Proofs.YtenehghpmnajpaaGreatDoor
open Go.RowKit
open Classical
/-- What every operation keeps: each list is as it was until its append, each slot until its assignment. -/
structure L19 (W0 wr : World) (v10 v11 : Value) (xs : List Int) (ys : List Lmt) (t10 t11 : Value) (d : Array Bool) (w : World) : Prop where
  gr : Gr W0 w
  sz : wr.heap.size ≤ w.heap.size
  a : d.getD 11 false = false → t10 = v10
  b : d.getD 12 false = false → t11 = v11
  o : d.getD 3 false = false → w.ownsRow W0.heap.size 3 1 v10 xs.length (nums xs)
  p : d.getD 10 false = false → w.ownsRow W0.heap.size 35 3 v11 ys.length (ys.flatMap encM)
theorem L19.step {W0 wr : World} {v10 v11 : Value} {xs : List Int} {ys : List Lmt} {t10 t11 : Value} {d : Array Bool} {w w2 : World} {i : Nat} (h : L19 W0 wr v10 v11 xs ys t10 t11 d w) (hg : Gr w w2) (h3 : i ≠ 3) (h10 : i ≠ 10) (h11 : i ≠ 11) (h12 : i ≠ 12) : L19 W0 wr v10 v11 xs ys t10 t11 (d.setIfInBounds i true) w2 where
  gr := h.gr.trans hg
  sz := Nat.le_trans h.sz hg.size
  a := fun q => h.a (by rw [getD_set_ne false h11] at q; exact q)
  b := fun q => h.b (by rw [getD_set_ne false h12] at q; exact q)
  o := fun q => Gr.owns (h.o (by rw [getD_set_ne false h3] at q; exact q)) hg
  p := fun q => Gr.owns (h.p (by rw [getD_set_ne false h10] at q; exact q)) hg
/-- What is known of each slot as soon as its operation is done. -/
def le19F (W0 wr : World) (a10 a11 : Option Addr) (c10 c11 : Nat) (xs : List Int) (ys ms : List Lmt) (k bm om cm : Nat) (hk : k < ms.length) (t10 t11 t47 t48 t49 t50 t51 t52 t53 t54 t55 t56 t57 : Value) (d : Array Bool) (w : World) : Prop :=
  L19 W0 wr (.slice a10 xs.length c10) (.slice a11 ys.length c11) xs ys t10 t11 d w ∧ (d.getD 0 false = true → t47 = .slice a10 xs.length c10) ∧
  (d.getD 1 false = true → t48 = .int .i64 (k : Int)) ∧
  (d.getD 2 false = true → (∃ B, t49 = .slice (some ⟨B, 0, none⟩) 1 1 ∧ wr.heap.size ≤ B ∧ Row w B 3 [.int .i64 (k : Int)])) ∧
  (d.getD 3 false = true → ((d.getD 0 false = true ∧ d.getD 2 false = true) ∧ w.ownsRow W0.heap.size 3 1 t50 (xs.length + 1) (nums (xs ++ [(k : Int)])))) ∧
  (d.getD 4 false = true → t51 = .slice a11 ys.length c11) ∧
  (d.getD 5 false = true → t52 = .slice (some ⟨bm, om, none⟩) ms.length cm) ∧
  (d.getD 6 false = true → t53 = .int .i64 (k : Int)) ∧
  (d.getD 7 false = true → t54 = .pointer (some ⟨bm, om + k * 3, none⟩)) ∧
  (d.getD 8 false = true → t55 = .agg #[.int .i64 ms[k].clock, .int .i64 ms[k].low, .int .i64 ms[k].high]) ∧
  (d.getD 9 false = true → (∃ B, t56 = .slice (some ⟨B, 0, none⟩) 1 1 ∧ wr.heap.size ≤ B ∧ Row w B 35 [.int .i64 ms[k].clock, .int .i64 ms[k].low, .int .i64 ms[k].high])) ∧
  (d.getD 10 false = true → ((d.getD 4 false = true ∧ d.getD 9 false = true) ∧ w.ownsRow W0.heap.size 35 3 t57 (ys.length + 1) ((ys ++ [ms[k]]).flatMap encM))) ∧
  (d.getD 11 false = true → (d.getD 0 false = true ∧ d.getD 3 false = true ∧ t10 = t50)) ∧
  (d.getD 12 false = true → (d.getD 4 false = true ∧ d.getD 10 false = true ∧ t11 = t57))
/-- The frame. -/
def le19A (ms : List Lmt) (k bm om cm : Nat) (t10 t11 t47 t48 t49 t50 t51 t52 t53 t54 t55 t56 t57 s0 s2 s3 s4 s5 s6 s7 s8 s9 s12 s14 s15 s16 s17 s18 s19 s20 s21 s22 s23 s24 s25 s26 s27 s28 s29 s30 s31 s32 s33 s34 s35 s36 s37 s38 s39 s40 s41 s42 s43 s44 s45 s46 s58 s59 s60 s61 s62 s63 s64 s65 s66 : Value) : Act := { tmps := #[s0, .slice (some ⟨bm, om, none⟩) ms.length cm, s2, s3, s4, s5, s6, s7, s8, s9, t10, t11, s12, .int .i64 (k : Int), s14, s15, s16, s17, s18, s19, s20, s21, s22, s23, s24, s25, s26, s27, s28, s29, s30, s31, s32, s33, s34, s35, s36, s37, s38, s39, s40, s41, s42, s43, s44, s45, s46, t47, t48, t49, t50, t51, t52, t53, t54, t55, t56, t57, s58, s59, s60, s61, s62, s63, s64, s65, s66], defers := [] }
set_option maxRecDepth 100000 in
set_option maxHeartbeats 4000000 in
theorem le19 {Q : Exit → Act → World → Prop} {W0 wr : World} {a10 a11 : Option Addr} {c10 c11 : Nat} {xs : List Int} {ys ms : List Lmt} {k bm om cm : Nat} {hk : k < ms.length}  {s0 s2 s3 s4 s5 s6 s7 s8 s9 s12 s14 s15 s16 s17 s18 s19 s20 s21 s22 s23 s24 s25 s26 s27 s28 s29 s30 s31 s32 s33 s34 s35 s36 s37 s38 s39 s40 s41 s42 s43 s44 s45 s46 s47 s48 s49 s50 s51 s52 s53 s54 s55 s56 s57 s58 s59 s60 s61 s62 s63 s64 s65 s66 : Value} (hg0 : Gr W0 wr) (ho : wr.ownsRow W0.heap.size 3 1 (.slice a10 xs.length c10) xs.length (nums xs)) (hp : wr.ownsRow W0.heap.size 35 3 (.slice a11 ys.length c11) ys.length (ys.flatMap encM)) (h0 : W0.cell? ⟨bm, om + k * 3, none⟩ = some (.int .i64 ms[k].clock)) (h1 : W0.cell? ⟨bm, om + k * 3 + 1, none⟩ = some (.int .i64 ms[k].low)) (h2 : W0.cell? ⟨bm, om + k * 3 + 2, none⟩ = some (.int .i64 ms[k].high)) (hml : ms.length ≤ 32) (hxl : xs.length ≤ 32) (hyl : ys.length ≤ 32)
    (h' : ∀ t47 t48 t49 t50 t51 t52 t53 t54 t55 t56 t57 wx, Gr W0 wx → wx.ownsRow W0.heap.size 3 1 t50 (xs.length + 1) (nums (xs ++ [(k : Int)])) → wx.ownsRow W0.heap.size 35 3 t57 (ys.length + 1) ((ys ++ [ms[k]]).flatMap encM) → Q .normal (le19A ms k bm om cm t50 t57 t47 t48 t49 t50 t51 t52 t53 t54 t55 t56 t57 s0 s2 s3 s4 s5 s6 s7 s8 s9 s12 s14 s15 s16 s17 s18 s19 s20 s21 s22 s23 s24 s25 s26 s27 s28 s29 s30 s31 s32 s33 s34 s35 s36 s37 s38 s39 s40 s41 s42 s43 s44 s45 s46 s58 s59 s60 s61 s62 s63 s64 s65 s66) wx) :
    (Code.region 19 (regIn 19 Tryz.f21) true).wp Tryz.prog Q { tmps := #[s0, .slice (some ⟨bm, om, none⟩) ms.length cm, s2, s3, s4, s5, s6, s7, s8, s9, .slice a10 xs.length c10, .slice a11 ys.length c11, s12, .int .i64 (k : Int), s14, s15, s16, s17, s18, s19, s20, s21, s22, s23, s24, s25, s26, s27, s28, s29, s30, s31, s32, s33, s34, s35, s36, s37, s38, s39, s40, s41, s42, s43, s44, s45, s46, s47, s48, s49, s50, s51, s52, s53, s54, s55, s56, s57, s58, s59, s60, s61, s62, s63, s64, s65, s66], defers := [] } wr := by
  have C0 := PLift.up h0
  have C1 := PLift.up h1
  have C2 := PLift.up h2
  have LT1 : PLift (∀ k, (Value.slice a10 xs.length c10).ownBlock = some k → k < wr.heap.size) := PLift.up (fun k e => (owns_block ho k e).2)
  have LT2 : PLift (∀ k, (Value.slice a11 ys.length c11).ownBlock = some k → k < wr.heap.size) := PLift.up (fun k e => (owns_block hp k e).2)
  obtain ⟨i0, hi, hz0, hz1, hz2⟩ := info_parts infoInt
  obtain ⟨j0, hj, hy0, hy1, hy2⟩ := info_parts infoLmt
  clear h0 h1 h2
  simp only [regIn, Tryz.f21, regOps, Option.bind_some, Option.getD_some, Nat.beq, cond_true, cond_false]
  refine wp_region_steps (fun done a w => ∃ t10 t11 t47 t48 t49 t50 t51 t52 t53 t54 t55 t56 t57, a = le19A ms k bm om cm t10 t11 t47 t48 t49 t50 t51 t52 t53 t54 t55 t56 t57 s0 s2 s3 s4 s5 s6 s7 s8 s9 s12 s14 s15 s16 s17 s18 s19 s20 s21 s22 s23 s24 s25 s26 s27 s28 s29 s30 s31 s32 s33 s34 s35 s36 s37 s38 s39 s40 s41 s42 s43 s44 s45 s46 s58 s59 s60 s61 s62 s63 s64 s65 s66 ∧ le19F W0 wr a10 a11 c10 c11 xs ys ms k bm om cm hk t10 t11 t47 t48 t49 t50 t51 t52 t53 t54 t55 t56 t57 done w) (by kernel_rfl) (by kernel_rfl) ?_ ⟨?_, ?_, ?_, ?_, ?_, ?_, ?_, ?_, ?_, ?_, ?_, ?_, ?_, trivial⟩ ?_
  · exact ⟨.slice a10 xs.length c10, .slice a11 ys.length c11, s47, s48, s49, s50, s51, s52, s53, s54, s55, s56, s57, rfl, ⟨hg0.drew, Nat.le_refl _, fun _ => rfl, fun _ => rfl, fun _ => Gr.owns ho ((Gr.refl _).drew), fun _ => Gr.owns hp ((Gr.refl _).drew)⟩, fun q => absurd q (by decide), fun q => absurd q (by decide), fun q => absurd q (by decide), fun q => absurd q (by decide), fun q => absurd q (by decide), fun q => absurd q (by decide), fun q => absurd q (by decide), fun q => absurd q (by decide), fun q => absurd q (by decide), fun q => absurd q (by decide), fun q => absurd q (by decide), fun q => absurd q (by decide), fun q => absurd q (by decide)⟩
  · rintro done a w hsz hnot hdep ⟨t10, t11, t47, t48, t49, t50, t51, t52, t53, t54, t55, t56, t57, rfl, gw, f0, f1, f2, f3, f4, f5, f6, f7, f8, f9, f10, f11, f12⟩ K hK
    have hn : ¬ done.getD 0 false = true := by rw [getD_both hnot]; decide
    have n11 : done.getD 11 false = false := by
      cases e : done.getD 11 false with
      | false => rfl
      | true => exact absurd (f11 e).1 hn
    obtain rfl := gw.a n11
    have HK := PLift.up hK
    clear hK 
    simp only [le19A]
    go_simp
    have gg : Gr w w := Gr.refl _
    refine HK.down _ _ ⟨_, _, _, _, _, _, _, _, _, _, _, _, _, rfl, gw.step gg (by decide) (by decide) (by decide) (by decide), fun _ => rfl, kp f1, fun q => (let ⟨B, e, hB, hR⟩ := f2 (done_old q (by decide)); ⟨B, e, hB, hR.gr gg⟩), fun q => absurd (f3 (done_old q (by decide))).1.1 hn, kp f4, kp f5, kp f6, kp f7, kp f8, fun q => (let ⟨B, e, hB, hR⟩ := f9 (done_old q (by decide)); ⟨B, e, hB, hR.gr gg⟩), fun q => (let h := f10 (done_old q (by decide)); ⟨⟨done_stay h.1.1, done_stay h.1.2⟩, Gr.owns h.2 gg⟩), fun q => absurd (f11 (done_old q (by decide))).1 hn, fun q => (let h := f12 (done_old q (by decide)); ⟨done_stay h.1, done_stay h.2.1, h.2.2⟩)⟩
  · rintro done a w hsz hnot hdep ⟨t10, t11, t47, t48, t49, t50, t51, t52, t53, t54, t55, t56, t57, rfl, gw, f0, f1, f2, f3, f4, f5, f6, f7, f8, f9, f10, f11, f12⟩ K hK
    have hn : ¬ done.getD 1 false = true := by rw [getD_both hnot]; decide
    have HK := PLift.up hK
    clear hK 
    simp only [le19A]
    go_simp
    have gg : Gr w w := Gr.refl _
    refine HK.down _ _ ⟨_, _, _, _, _, _, _, _, _, _, _, _, _, rfl, gw.step gg (by decide) (by decide) (by decide) (by decide), kp f0, fun _ => rfl, fun q => (let ⟨B, e, hB, hR⟩ := f2 (done_old q (by decide)); ⟨B, e, hB, hR.gr gg⟩), fun q => (let h := f3 (done_old q (by decide)); ⟨⟨done_stay h.1.1, done_stay h.1.2⟩, Gr.owns h.2 gg⟩), kp f4, kp f5, kp f6, kp f7, kp f8, fun q => (let ⟨B, e, hB, hR⟩ := f9 (done_old q (by decide)); ⟨B, e, hB, hR.gr gg⟩), fun q => (let h := f10 (done_old q (by decide)); ⟨⟨done_stay h.1.1, done_stay h.1.2⟩, Gr.owns h.2 gg⟩), fun q => (let h := f11 (done_old q (by decide)); ⟨done_stay h.1, done_stay h.2.1, h.2.2⟩), fun q => (let h := f12 (done_old q (by decide)); ⟨done_stay h.1, done_stay h.2.1, h.2.2⟩)⟩
  · rintro done a w hsz hnot hdep ⟨t10, t11, t47, t48, t49, t50, t51, t52, t53, t54, t55, t56, t57, rfl, gw, f0, f1, f2, f3, f4, f5, f6, f7, f8, f9, f10, f11, f12⟩ K hK
    have hn : ¬ done.getD 2 false = true := by rw [getD_both hnot]; decide
    have d1 := hdep 1 (by kernel_rfl)
    obtain rfl := f1 d1
    have HK := PLift.up hK
    clear hK d1
    simp only [le19A]
    go_simp
    have gg : Gr w (w.alloc (.cells #[.int .i64 (k : Int)] 3)) := (Gr.refl _).alloc _
    refine HK.down _ _ ⟨_, _, _, _, _, _, _, _, _, _, _, _, _, rfl, gw.step gg (by decide) (by decide) (by decide) (by decide), kp f0, kp f1, ?_, fun q => absurd (f3 (done_old q (by decide))).1.2 hn, kp f4, kp f5, kp f6, kp f7, kp f8, fun q => (let ⟨B, e, hB, hR⟩ := f9 (done_old q (by decide)); ⟨B, e, hB, hR.gr gg⟩), fun q => (let h := f10 (done_old q (by decide)); ⟨⟨done_stay h.1.1, done_stay h.1.2⟩, Gr.owns h.2 gg⟩), fun q => (let h := f11 (done_old q (by decide)); ⟨done_stay h.1, done_stay h.2.1, h.2.2⟩), fun q => (let h := f12 (done_old q (by decide)); ⟨done_stay h.1, done_stay h.2.1, h.2.2⟩)⟩
    exact fun _ => ⟨_, rfl, gw.sz, Row.new w _ _⟩
  · rintro done a w hsz hnot hdep ⟨t10, t11, t47, t48, t49, t50, t51, t52, t53, t54, t55, t56, t57, rfl, gw, f0, f1, f2, f3, f4, f5, f6, f7, f8, f9, f10, f11, f12⟩ K hK
    have hn : ¬ done.getD 3 false = true := by rw [getD_both hnot]; decide
    have d0 := hdep 0 (by kernel_rfl)
    have d2 := hdep 2 (by kernel_rfl)
    obtain rfl := f0 d0
    obtain ⟨B, rfl, hB, hR⟩ := f2 d2
    have RB := PLift.up hR
    have HB := PLift.up hB
    clear hR hB
    have n3 := getD_both hnot
    have o1 := gw.o n3
    have CC := row_cells RB.down
    have lt0 : ∀ k, (Value.slice a10 xs.length c10).ownBlock = some k → k < wr.heap.size := fun k e => LT1.down k e
    refine step_append_gets _ rfl _ _ 22 rfl W0.heap.size 3 i0 (.int .i64 0) 1 8 Tryz.underlying22 hi hz0 hz1 hz2 rfl (by decide) (.slice a10 xs.length c10) xs.length (nums xs) (by simp [Act.eval, le19A]) o1 (some ⟨B, 0, none⟩) 1 1 [.int .i64 (k : Int)] (by simp [Act.eval, le19A]) ⟨rfl, fun _ => ⟨_, rfl, CC⟩⟩ (by simp [Value.oneCell']) (by unfold maxLen; omega) (by omega) gw.gr.size ?_
    intro v w2 hown hgrow _
    have e9 : nums xs ++ [.int .i64 (k : Int)] = nums (xs ++ [(k : Int)]) := by simp [nums]
    rw [e9] at hown
    refine hK _ _ ⟨_, _, _, _, _, _, _, _, _, _, _, _, _, rfl, ⟨gw.gr.grown hgrow (fun k e => (owns_block o1 k e).1), Nat.le_trans gw.sz hgrow.size, fun q => gw.a (by rw [getD_set_ne false (by decide)] at q; exact q), fun q => gw.b (by rw [getD_set_ne false (by decide)] at q; exact q), fun q => absurd q (by rw [getD_set_same (by rw [hsz]; decide)]; decide), fun q => (let p1 := gw.p (by rw [getD_set_ne false (by decide)] at q; exact q); p1.kept hgrow (owns_two o1 p1 (by decide)))⟩, fun _ => rfl, kp f1, fun _ => ⟨B, rfl, HB.down, RB.down.grown hgrow (fun e => by have := lt0 B e.symm; have := HB.down; omega)⟩, ?_, kp f4, kp f5, kp f6, kp f7, kp f8, fun q => (let ⟨B, e, hB, hR⟩ := f9 (done_old q (by decide)); ⟨B, e, hB, hR.grown hgrow (fun e => by have := lt0 B e.symm; omega)⟩), fun q => (let h := f10 (done_old q (by decide)); ⟨⟨done_stay h.1.1, done_stay h.1.2⟩, h.2.kept hgrow (owns_two o1 h.2 (by decide))⟩), fun q => absurd (f11 (done_old q (by decide))).2.1 hn, fun q => (let h := f12 (done_old q (by decide)); ⟨done_stay h.1, done_stay h.2.1, h.2.2⟩)⟩
    exact fun _ => ⟨⟨done_stay d0, done_stay d2⟩, hown⟩
  · rintro done a w hsz hnot hdep ⟨t10, t11, t47, t48, t49, t50, t51, t52, t53, t54, t55, t56, t57, rfl, gw, f0, f1, f2, f3, f4, f5, f6, f7, f8, f9, f10, f11, f12⟩ K hK
    have hn : ¬ done.getD 4 false = true := by rw [getD_both hnot]; decide
    have n12 : done.getD 12 false = false := by
      cases e : done.getD 12 false with
      | false => rfl
      | true => exact absurd (f12 e).1 hn
    obtain rfl := gw.b n12
    have HK := PLift.up hK
    clear hK 
    simp only [le19A]
    go_simp
    have gg : Gr w w := Gr.refl _
    refine HK.down _ _ ⟨_, _, _, _, _, _, _, _, _, _, _, _, _, rfl, gw.step gg (by decide) (by decide) (by decide) (by decide), kp f0, kp f1, fun q => (let ⟨B, e, hB, hR⟩ := f2 (done_old q (by decide)); ⟨B, e, hB, hR.gr gg⟩), fun q => (let h := f3 (done_old q (by decide)); ⟨⟨done_stay h.1.1, done_stay h.1.2⟩, Gr.owns h.2 gg⟩), fun _ => rfl, kp f5, kp f6, kp f7, kp f8, fun q => (let ⟨B, e, hB, hR⟩ := f9 (done_old q (by decide)); ⟨B, e, hB, hR.gr gg⟩), fun q => absurd (f10 (done_old q (by decide))).1.1 hn, fun q => (let h := f11 (done_old q (by decide)); ⟨done_stay h.1, done_stay h.2.1, h.2.2⟩), fun q => absurd (f12 (done_old q (by decide))).1 hn⟩
  · rintro done a w hsz hnot hdep ⟨t10, t11, t47, t48, t49, t50, t51, t52, t53, t54, t55, t56, t57, rfl, gw, f0, f1, f2, f3, f4, f5, f6, f7, f8, f9, f10, f11, f12⟩ K hK
    have hn : ¬ done.getD 5 false = true := by rw [getD_both hnot]; decide
    have HK := PLift.up hK
    clear hK 
    simp only [le19A]
    go_simp
    have gg : Gr w w := Gr.refl _
    refine HK.down _ _ ⟨_, _, _, _, _, _, _, _, _, _, _, _, _, rfl, gw.step gg (by decide) (by decide) (by decide) (by decide), kp f0, kp f1, fun q => (let ⟨B, e, hB, hR⟩ := f2 (done_old q (by decide)); ⟨B, e, hB, hR.gr gg⟩), fun q => (let h := f3 (done_old q (by decide)); ⟨⟨done_stay h.1.1, done_stay h.1.2⟩, Gr.owns h.2 gg⟩), kp f4, fun _ => rfl, kp f6, kp f7, kp f8, fun q => (let ⟨B, e, hB, hR⟩ := f9 (done_old q (by decide)); ⟨B, e, hB, hR.gr gg⟩), fun q => (let h := f10 (done_old q (by decide)); ⟨⟨done_stay h.1.1, done_stay h.1.2⟩, Gr.owns h.2 gg⟩), fun q => (let h := f11 (done_old q (by decide)); ⟨done_stay h.1, done_stay h.2.1, h.2.2⟩), fun q => (let h := f12 (done_old q (by decide)); ⟨done_stay h.1, done_stay h.2.1, h.2.2⟩)⟩
  · rintro done a w hsz hnot hdep ⟨t10, t11, t47, t48, t49, t50, t51, t52, t53, t54, t55, t56, t57, rfl, gw, f0, f1, f2, f3, f4, f5, f6, f7, f8, f9, f10, f11, f12⟩ K hK
    have hn : ¬ done.getD 6 false = true := by rw [getD_both hnot]; decide
    have HK := PLift.up hK
    clear hK 
    simp only [le19A]
    go_simp
    have gg : Gr w w := Gr.refl _
    refine HK.down _ _ ⟨_, _, _, _, _, _, _, _, _, _, _, _, _, rfl, gw.step gg (by decide) (by decide) (by decide) (by decide), kp f0, kp f1, fun q => (let ⟨B, e, hB, hR⟩ := f2 (done_old q (by decide)); ⟨B, e, hB, hR.gr gg⟩), fun q => (let h := f3 (done_old q (by decide)); ⟨⟨done_stay h.1.1, done_stay h.1.2⟩, Gr.owns h.2 gg⟩), kp f4, kp f5, fun _ => rfl, kp f7, kp f8, fun q => (let ⟨B, e, hB, hR⟩ := f9 (done_old q (by decide)); ⟨B, e, hB, hR.gr gg⟩), fun q => (let h := f10 (done_old q (by decide)); ⟨⟨done_stay h.1.1, done_stay h.1.2⟩, Gr.owns h.2 gg⟩), fun q => (let h := f11 (done_old q (by decide)); ⟨done_stay h.1, done_stay h.2.1, h.2.2⟩), fun q => (let h := f12 (done_old q (by decide)); ⟨done_stay h.1, done_stay h.2.1, h.2.2⟩)⟩
  · rintro done a w hsz hnot hdep ⟨t10, t11, t47, t48, t49, t50, t51, t52, t53, t54, t55, t56, t57, rfl, gw, f0, f1, f2, f3, f4, f5, f6, f7, f8, f9, f10, f11, f12⟩ K hK
    have hn : ¬ done.getD 7 false = true := by rw [getD_both hnot]; decide
    have d5 := hdep 5 (by kernel_rfl)
    have d6 := hdep 6 (by kernel_rfl)
    obtain rfl := f5 d5
    obtain rfl := f6 d6
    have k2 : (k : Int) < ms.length := by omega
    have HK := PLift.up hK
    clear hK d5 d6
    simp only [le19A]
    go_simp
    have gg : Gr w w := Gr.refl _
    refine HK.down _ _ ⟨_, _, _, _, _, _, _, _, _, _, _, _, _, rfl, gw.step gg (by decide) (by decide) (by decide) (by decide), kp f0, kp f1, fun q => (let ⟨B, e, hB, hR⟩ := f2 (done_old q (by decide)); ⟨B, e, hB, hR.gr gg⟩), fun q => (let h := f3 (done_old q (by decide)); ⟨⟨done_stay h.1.1, done_stay h.1.2⟩, Gr.owns h.2 gg⟩), kp f4, kp f5, kp f6, fun _ => rfl, kp f8, fun q => (let ⟨B, e, hB, hR⟩ := f9 (done_old q (by decide)); ⟨B, e, hB, hR.gr gg⟩), fun q => (let h := f10 (done_old q (by decide)); ⟨⟨done_stay h.1.1, done_stay h.1.2⟩, Gr.owns h.2 gg⟩), fun q => (let h := f11 (done_old q (by decide)); ⟨done_stay h.1, done_stay h.2.1, h.2.2⟩), fun q => (let h := f12 (done_old q (by decide)); ⟨done_stay h.1, done_stay h.2.1, h.2.2⟩)⟩
  · rintro done a w hsz hnot hdep ⟨t10, t11, t47, t48, t49, t50, t51, t52, t53, t54, t55, t56, t57, rfl, gw, f0, f1, f2, f3, f4, f5, f6, f7, f8, f9, f10, f11, f12⟩ K hK
    have hn : ¬ done.getD 8 false = true := by rw [getD_both hnot]; decide
    have d7 := hdep 7 (by kernel_rfl)
    obtain rfl := f7 d7
    have c0 := cell_gr gw.gr C0.down
    have c1 := cell_gr gw.gr C1.down
    have c2 := cell_gr gw.gr C2.down
    have ch := has_of_cell c0
    have HK := PLift.up hK
    clear hK d7
    simp only [le19A]
    go_simp
    have gg : Gr w w := Gr.refl _
    refine HK.down _ _ ⟨_, _, _, _, _, _, _, _, _, _, _, _, _, rfl, gw.step gg (by decide) (by decide) (by decide) (by decide), kp f0, kp f1, fun q => (let ⟨B, e, hB, hR⟩ := f2 (done_old q (by decide)); ⟨B, e, hB, hR.gr gg⟩), fun q => (let h := f3 (done_old q (by decide)); ⟨⟨done_stay h.1.1, done_stay h.1.2⟩, Gr.owns h.2 gg⟩), kp f4, kp f5, kp f6, kp f7, fun _ => rfl, fun q => (let ⟨B, e, hB, hR⟩ := f9 (done_old q (by decide)); ⟨B, e, hB, hR.gr gg⟩), fun q => (let h := f10 (done_old q (by decide)); ⟨⟨done_stay h.1.1, done_stay h.1.2⟩, Gr.owns h.2 gg⟩), fun q => (let h := f11 (done_old q (by decide)); ⟨done_stay h.1, done_stay h.2.1, h.2.2⟩), fun q => (let h := f12 (done_old q (by decide)); ⟨done_stay h.1, done_stay h.2.1, h.2.2⟩)⟩
  · rintro done a w hsz hnot hdep ⟨t10, t11, t47, t48, t49, t50, t51, t52, t53, t54, t55, t56, t57, rfl, gw, f0, f1, f2, f3, f4, f5, f6, f7, f8, f9, f10, f11, f12⟩ K hK
    have hn : ¬ done.getD 9 false = true := by rw [getD_both hnot]; decide
    have d8 := hdep 8 (by kernel_rfl)
    obtain rfl := f8 d8
    have HK := PLift.up hK
    clear hK d8
    simp only [le19A]
    go_simp
    have gg : Gr w (w.alloc (.cells #[.int .i64 ms[k].clock, .int .i64 ms[k].low, .int .i64 ms[k].high] 35)) := (Gr.refl _).alloc _
    refine HK.down _ _ ⟨_, _, _, _, _, _, _, _, _, _, _, _, _, rfl, gw.step gg (by decide) (by decide) (by decide) (by decide), kp f0, kp f1, fun q => (let ⟨B, e, hB, hR⟩ := f2 (done_old q (by decide)); ⟨B, e, hB, hR.gr gg⟩), fun q => (let h := f3 (done_old q (by decide)); ⟨⟨done_stay h.1.1, done_stay h.1.2⟩, Gr.owns h.2 gg⟩), kp f4, kp f5, kp f6, kp f7, kp f8, ?_, fun q => absurd (f10 (done_old q (by decide))).1.2 hn, fun q => (let h := f11 (done_old q (by decide)); ⟨done_stay h.1, done_stay h.2.1, h.2.2⟩), fun q => (let h := f12 (done_old q (by decide)); ⟨done_stay h.1, done_stay h.2.1, h.2.2⟩)⟩
    exact fun _ => ⟨_, rfl, gw.sz, Row.new w _ _⟩
  · rintro done a w hsz hnot hdep ⟨t10, t11, t47, t48, t49, t50, t51, t52, t53, t54, t55, t56, t57, rfl, gw, f0, f1, f2, f3, f4, f5, f6, f7, f8, f9, f10, f11, f12⟩ K hK
    have hn : ¬ done.getD 10 false = true := by rw [getD_both hnot]; decide
    have d4 := hdep 4 (by kernel_rfl)
    have d9 := hdep 9 (by kernel_rfl)
    obtain rfl := f4 d4
    obtain ⟨B, rfl, hB, hR⟩ := f9 d9
    have RB := PLift.up hR
    have HB := PLift.up hB
    clear hR hB
    have n10 := getD_both hnot
    have o1 := gw.p n10
    have CC := row_cells RB.down
    have lt0 : ∀ k, (Value.slice a11 ys.length c11).ownBlock = some k → k < wr.heap.size := fun k e => LT2.down k e
    refine step_append_gets _ rfl _ _ 24 rfl W0.heap.size 35 j0 (.agg #[.int .i64 0, .int .i64 0, .int .i64 0]) 3 24 Tryz.underlying24 hj hy0 hy1 hy2 rfl (by decide) (.slice a11 ys.length c11) ys.length (ys.flatMap encM) (by simp [Act.eval, le19A]) o1 (some ⟨B, 0, none⟩) 1 1 [.int .i64 ms[k].clock, .int .i64 ms[k].low, .int .i64 ms[k].high] (by simp [Act.eval, le19A]) ⟨rfl, fun _ => ⟨_, rfl, CC⟩⟩ (by simp [Value.oneCell']) (by unfold maxLen; omega) (by omega) gw.gr.size ?_
    intro v w2 hown hgrow _
    have e9 : ys.flatMap encM ++ [.int .i64 ms[k].clock, .int .i64 ms[k].low, .int .i64 ms[k].high] = (ys ++ [ms[k]]).flatMap encM := by simp [encM]
    rw [e9] at hown
    refine hK _ _ ⟨_, _, _, _, _, _, _, _, _, _, _, _, _, rfl, ⟨gw.gr.grown hgrow (fun k e => (owns_block o1 k e).1), Nat.le_trans gw.sz hgrow.size, fun q => gw.a (by rw [getD_set_ne false (by decide)] at q; exact q), fun q => gw.b (by rw [getD_set_ne false (by decide)] at q; exact q), fun q => (let p1 := gw.o (by rw [getD_set_ne false (by decide)] at q; exact q); p1.kept hgrow (owns_two o1 p1 (by decide))), fun q => absurd q (by rw [getD_set_same (by rw [hsz]; decide)]; decide)⟩, kp f0, kp f1, fun q => (let ⟨B, e, hB, hR⟩ := f2 (done_old q (by decide)); ⟨B, e, hB, hR.grown hgrow (fun e => by have := lt0 B e.symm; omega)⟩), fun q => (let h := f3 (done_old q (by decide)); ⟨⟨done_stay h.1.1, done_stay h.1.2⟩, h.2.kept hgrow (owns_two o1 h.2 (by decide))⟩), fun _ => rfl, kp f5, kp f6, kp f7, kp f8, fun _ => ⟨B, rfl, HB.down, RB.down.grown hgrow (fun e => by have := lt0 B e.symm; have := HB.down; omega)⟩, ?_, fun q => (let h := f11 (done_old q (by decide)); ⟨done_stay h.1, done_stay h.2.1, h.2.2⟩), fun q => absurd (f12 (done_old q (by decide))).2.1 hn⟩
    exact fun _ => ⟨⟨done_stay d4, done_stay d9⟩, hown⟩
  · rintro done a w hsz hnot hdep ⟨t10, t11, t47, t48, t49, t50, t51, t52, t53, t54, t55, t56, t57, rfl, gw, f0, f1, f2, f3, f4, f5, f6, f7, f8, f9, f10, f11, f12⟩ K hK
    have hn : ¬ done.getD 11 false = true := by rw [getD_both hnot]; decide
    have d3 := hdep 3 (by kernel_rfl)
    obtain ⟨⟨z1, z2⟩, z3⟩ := f3 d3
    have Z1 := PLift.up z1
    clear z1 z2 z3
    have HK := PLift.up hK
    clear hK 
    simp only [le19A]
    go_simp
    have gg : Gr w w := Gr.refl _
    refine HK.down _ _ ⟨_, _, _, _, _, _, _, _, _, _, _, _, _, rfl, ⟨gw.gr, gw.sz, fun q => absurd q (by rw [getD_set_same (by rw [hsz]; decide)]; decide), fun q => gw.b (by rw [getD_set_ne false (by decide)] at q; exact q), fun q => gw.o (by rw [getD_set_ne false (by decide)] at q; exact q), fun q => gw.p (by rw [getD_set_ne false (by decide)] at q; exact q)⟩, fun q => by first | exact f0 (done_old q (by decide)) | rfl, kp f1, fun q => (let ⟨B, e, hB, hR⟩ := f2 (done_old q (by decide)); ⟨B, e, hB, hR.gr gg⟩), fun q => (let h := f3 (done_old q (by decide)); ⟨⟨done_stay h.1.1, done_stay h.1.2⟩, Gr.owns h.2 gg⟩), kp f4, kp f5, kp f6, kp f7, kp f8, fun q => (let ⟨B, e, hB, hR⟩ := f9 (done_old q (by decide)); ⟨B, e, hB, hR.gr gg⟩), fun q => (let h := f10 (done_old q (by decide)); ⟨⟨done_stay h.1.1, done_stay h.1.2⟩, Gr.owns h.2 gg⟩), ?_, fun q => (let h := f12 (done_old q (by decide)); ⟨done_stay h.1, done_stay h.2.1, h.2.2⟩)⟩
    exact fun _ => ⟨done_stay Z1.down, done_stay d3, rfl⟩
  · rintro done a w hsz hnot hdep ⟨t10, t11, t47, t48, t49, t50, t51, t52, t53, t54, t55, t56, t57, rfl, gw, f0, f1, f2, f3, f4, f5, f6, f7, f8, f9, f10, f11, f12⟩ K hK
    have hn : ¬ done.getD 12 false = true := by rw [getD_both hnot]; decide
    have d10 := hdep 10 (by kernel_rfl)
    obtain ⟨⟨z1, z2⟩, z3⟩ := f10 d10
    have Z1 := PLift.up z1
    clear z1 z2 z3
    have HK := PLift.up hK
    clear hK 
    simp only [le19A]
    go_simp
    have gg : Gr w w := Gr.refl _
    refine HK.down _ _ ⟨_, _, _, _, _, _, _, _, _, _, _, _, _, rfl, ⟨gw.gr, gw.sz, fun q => gw.a (by rw [getD_set_ne false (by decide)] at q; exact q), fun q => absurd q (by rw [getD_set_same (by rw [hsz]; decide)]; decide), fun q => gw.o (by rw [getD_set_ne false (by decide)] at q; exact q), fun q => gw.p (by rw [getD_set_ne false (by decide)] at q; exact q)⟩, kp f0, kp f1, fun q => (let ⟨B, e, hB, hR⟩ := f2 (done_old q (by decide)); ⟨B, e, hB, hR.gr gg⟩), fun q => (let h := f3 (done_old q (by decide)); ⟨⟨done_stay h.1.1, done_stay h.1.2⟩, Gr.owns h.2 gg⟩), fun q => by first | exact f4 (done_old q (by decide)) | rfl, kp f5, kp f6, kp f7, kp f8, fun q => (let ⟨B, e, hB, hR⟩ := f9 (done_old q (by decide)); ⟨B, e, hB, hR.gr gg⟩), fun q => (let h := f10 (done_old q (by decide)); ⟨⟨done_stay h.1.1, done_stay h.1.2⟩, Gr.owns h.2 gg⟩), fun q => (let h := f11 (done_old q (by decide)); ⟨done_stay h.1, done_stay h.2.1, h.2.2⟩), ?_⟩
    exact fun _ => ⟨done_stay Z1.down, done_stay d10, rfl⟩
  · rintro done a w hall ⟨t10, t11, t47, t48, t49, t50, t51, t52, t53, t54, t55, t56, t57, rfl, gw, f0, f1, f2, f3, f4, f5, f6, f7, f8, f9, f10, f11, f12⟩
    obtain ⟨_, _, rfl⟩ := f11 (hall 11 (by decide))
    obtain ⟨_, _, rfl⟩ := f12 (hall 12 (by decide))
    exact h' _ _ _ _ _ _ _ _ _ _ _ w gw.gr (f3 (hall 3 (by decide))).2 (f10 (hall 10 (by decide))).2
end Go.Proofs.YtenehghpmnajpaaGreatDoor

set_option linter.unusedVariables false
set_option linter.unusedSimpArgs false
namespace Go.Proofs.YtenehghpmnajpaaGreatDoor
open Go.RowKit
open Classical
def upJ (n i : Nat) : List Int := (List.range i).map (fun (k : Nat) => (k : Int)) ++ List.replicate (n - i) 0
theorem upJ_len {n i : Nat} (h : i ≤ n) : (upJ n i).length = n := by simp [upJ]; omega
theorem upJ_step {n i : Nat} (h : i < n) : (upJ n i).set i (i : Int) = upJ n (i + 1) := by
  unfold upJ
  rw [List.set_append_right _ _ (by simp), List.range_succ, List.map_append, List.append_assoc]
  congr 1
  rw [show n - i = (n - (i + 1)) + 1 by omega, List.replicate_succ]
  simp
theorem upJ_all (n : Nat) : upJ n n = (List.range n).map (fun (k : Nat) => (k : Int)) := by simp [upJ]
theorem refGo_bnd (l : List Clk) (ms : List Lmt) : ∀ i, ∀ k ∈ refGo l ms i, 0 ≤ k ∧ k < (ms.length : Int) := by
  intro i
  induction i with
  | zero =>
    intro k hk
    obtain ⟨j, hj, rfl⟩ := List.mem_map.1 hk
    have := List.mem_range.1 hj
    omega
  | succ i ih =>
    intro k hk
    simp only [refGo] at hk
    split at hk
    · exact ih k (List.mem_filter.1 hk).1
    · exact ih k hk
theorem refGo_len (l : List Clk) (ms : List Lmt) : ∀ i, (refGo l ms i).length ≤ ms.length := by
  intro i
  induction i with
  | zero => simp [refGo]
  | succ i ih =>
    simp only [refGo]
    split
    · exact Nat.le_trans (List.length_filter_le _ _) ih
    · exact ih
theorem take_filter_succ {α : Type} (p : α → Bool) (O : List α) (j : Nat) (h : j < O.length) : (O.take (j + 1)).filter p = (O.take j).filter p ++ if p O[j] = true then [O[j]] else [] := by
  rw [List.take_add_one, List.getElem?_eq_getElem h, Option.toList, List.filter_append]
  congr 1
  cases hp : p O[j] <;> simp [List.filter, hp]
theorem coreL_snoc (ms : List Lmt) (xs : List Int) (k : Nat) (h : k < ms.length) : coreL ms (xs ++ [(k : Int)]) = coreL ms xs ++ [ms[k]] := by
  unfold coreL
  rw [List.map_append]
  congr 1
  simp [List.getD_eq_getElem?_getD, List.getElem?_eq_getElem h]
theorem nums_owned {w : World} {base : Nat} {a : Option Addr} {c : Nat} {xs : List Int} (h : w.ownsRow base 3 1 (.slice a xs.length c) xs.length (nums xs)) (hw : ∀ x ∈ xs, Wide x) : SlOf 1 RI w a xs := by
  intro k hk
  obtain ⟨g, cap, e0, _, _, hc⟩ := owns_cell h (by omega)
  cases e0
  refine ⟨g, 0, rfl, ?_, hw _ (List.getElem_mem hk)⟩
  rw [Nat.zero_add, hc (k * 1) (by omega), Nat.mul_one]
  simp [nums, List.getElem?_eq_getElem hk]
set_option maxRecDepth 100000 in
set_option maxHeartbeats 4000000 in
theorem refLeastG_any (l : List Clk) (ms : List Lmt) (al am : Option Addr) (cl cm : Nat) (w : World) (h : GEnv w l ms al am) :
    Calls Tryz.prog 21 #[.slice al l.length cl, .slice am ms.length cm] w (GivesNE w (leL l ms) (rfE l ms)) := by
  have RF := Lib.hid (refutableG_any l ms al am cl cm w h)
  by_cases hr : rfE l ms = 0
  · have hb : bgE l ms = 0 := by
      by_cases q : bgE l ms = 0
      · exact q
      · unfold rfE at hr; rw [if_neg q] at hr; exact absurd hr q
    have hct : cntS l ms = 0 := by
      by_cases q : cntS l ms = 0
      · exact q
      · unfold rfE at hr; rw [if_pos hb, if_neg q] at hr; cases hr
    have hc := (bgE_zero hb).1
    have hml := (bgE_zero hb).2.1
    have hlm := (bgE_zero hb).2.2
    have hl := small_len (cchk_zero hc).1
    have hno := (cntS_zero hc).1 hct
    have hab : (allB l ms).length ≤ 64 := by have := allB_len l ms; omega
    have EL : Hid (leL l ms = refGo l ms ms.length) := Lib.hid (by unfold leL; rw [if_pos hb, if_pos hct, refGo_end hc hab hml hno])
    rw [hr] at RF ⊢
    rw [EL.out]
    have HE := Lib.hid (h.env hb)
    have HM := Lib.hid h.lmts
    have LM := Lib.hid hlm
    obtain ⟨i0, hi, hz0, hz1, hz2⟩ := info_parts infoInt
    have hmk := run_make_row' (P := Tryz.prog) 22 3 (.int .i64 0) 8 Tryz.underlying22 infoInt rfl .i64 .i64 ms.length (by omega) (by omega)
    clear h hr hb hct hno EL hlm hab
    go_enter Tryz.func21, Tryz.ntmps21
    go_wp2_with fail
    refine RF.out.mono ?_
    rintro e w1 ⟨rfl, hg1⟩
    have G1 := Lib.hid hg1
    clear hg1 RF
    go_wp2_with fail
    obtain ⟨OB, hOB⟩ : ∃ OB : Nat, Hid (w1.heap.size = OB) := ⟨_, Lib.hid rfl⟩
    obtain ⟨W2, hW2⟩ : ∃ W2 : World, Hid (W2 = w1.alloc (.cells (madeCells #[.int .i64 0] ms.length) 3)) := ⟨_, Lib.hid rfl⟩
    rw [← hW2.out, hOB.out]
    have R2 : Hid (Row W2 OB 3 (nums (upJ ms.length 0))) := Lib.hid (by
      rw [hW2.out]
      have := row_new' w1 (madeCells #[.int .i64 0] ms.length) 3 OB hOB.out.symm
      rw [made_zero] at this
      have e : nums (upJ ms.length 0) = List.replicate ms.length (.int .i64 0) := by simp [nums, upJ]
      rw [e]; exact this)
    have G2 : Hid (Gr w W2) := Lib.hid (by rw [hW2.out]; exact G1.out.alloc _)
    have ob : Hid (w.heap.size ≤ OB) := Lib.hid (by have := hOB.out; have := G1.out.size; omega)
    clear hW2 hOB hmk G1
    go_loopw [25] (fun s25 wr => ∃ i : Nat, i ≤ ms.length ∧ s25 = .int .i64 (i : Int) ∧ Row wr OB 3 (nums (upJ ms.length i)) ∧ Gr w wr) (fun s25 _ => ms.length - (intOf s25).toNat)
    case atStart => exact ⟨0, Nat.zero_le _, rfl, R2.out, G2.out⟩
    case round =>
      clear R2 G2
      obtain ⟨i, hi2, rfl, hrow, hg⟩ := hrel
      have RW := Lib.hid hrow
      have HG := Lib.hid hg
      by_cases hlt : i < ms.length
      · have k2 : (i : Int) < ms.length := by omega
        have c0 := hrow.cell i (by rw [nums_len, upJ_len (by omega)]; exact hlt)
        have f0 := hrow.free i
        have hh := hrow.has
        clear hrow hg
        go_wp2_with fail
        go_roundw
        case rel => exact ⟨i + 1, by omega, by go_num, by rw [← upJ_step hlt]; exact RW.out.iset i (i : Int), HG.out.setc ob.out⟩
        case measure => simp [intOf]; omega
      · obtain rfl : i = ms.length := by omega
        have S0 : SlOf 1 RI wr (some ⟨OB, 0, none⟩) (refGo l ms 0) := by
          have e : upJ ms.length ms.length = refGo l ms 0 := upJ_all _
          rw [← e]
          refine hrow.s.slI (fun k hk => ?_)
          have := refGo_bnd l ms 0 _ (by rw [← e]; exact List.getElem_mem hk)
          unfold Wide; omega
        have e0 : (refGo l ms 0).length = ms.length := by simp [refGo]
        have S0' := Lib.hid S0
        have E0 := Lib.hid e0
        clear hrow hg RW S0 e0
        go_wp2_with fail
        obtain ⟨wv, rfl⟩ : ∃ wv : World, wv = wr := ⟨_, rfl⟩
        go_loopw [7, 35] (fun s7 s35 wr => ∃ (i : Nat) (A : Option Addr) (c : Nat), i ≤ ms.length ∧ s35 = .int .i64 (i : Int) ∧ s7 = .slice A (refGo l ms i).length c ∧ SlOf 1 RI wr A (refGo l ms i) ∧ Gr w wr) (fun _ s35 _ => ms.length - (intOf s35).toNat)
        case atStart => exact ⟨0, _, _, Nat.zero_le _, rfl, by rw [E0.out], S0'.out, HG.out⟩
        case round =>
          clear S0' HG E0
          obtain ⟨i, A, c, hi3, rfl, rfl, hsl, hg⟩ := hrel
          have SL := Lib.hid hsl
          have HG := Lib.hid hg
          have ob1 := refGo_len l ms i
          have OB1 := Lib.hid (refGo_bnd l ms i)
          clear hsl hg
          by_cases hlt : i < ms.length
          · have k2 : (i : Int) < ms.length := by omega
            have GO : Hid (refGo l ms (i + 1) = if cntS l (coreL ms ((refGo l ms i).filter fun k => decide (k ≠ (i : Int)))) = 0 then (refGo l ms i).filter fun k => decide (k ≠ (i : Int)) else refGo l ms i) := Lib.hid rfl
            obtain ⟨O, hO⟩ : ∃ O, refGo l ms i = O := ⟨_, rfl⟩
            rw [hO] at SL ob1 OB1 GO ⊢
            clear hO
            go_wp2_with fail
            obtain ⟨wi, rfl⟩ : ∃ wi : World, wi = wr := ⟨_, rfl⟩
            go_loopw [10, 11, 40] (fun s10 s11 s40 wr => ∃ (j : Nat) (xs : List Int) (a10 a11 : Option Addr) (c10 c11 : Nat), j ≤ O.length ∧ s40 = .int .i64 (j : Int) ∧ xs = (O.take j).filter (fun k => decide (k ≠ (i : Int))) ∧ s10 = .slice a10 xs.length c10 ∧ s11 = .slice a11 (coreL ms xs).length c11 ∧
              wr.ownsRow wi.heap.size 3 1 (.slice a10 xs.length c10) xs.length (nums xs) ∧ wr.ownsRow wi.heap.size 35 3 (.slice a11 (coreL ms xs).length c11) (coreL ms xs).length ((coreL ms xs).flatMap encM) ∧ Gr wi wr) (fun _ _ s40 _ => O.length - (intOf s40).toNat)
            case atStart => exact ⟨0, [], none, none, 0, 0, Nat.zero_le _, rfl, by simp, rfl, rfl, World.ownsRow_nil _ _ _ _, World.ownsRow_nil _ _ _ _, Gr.refl _⟩
            case round =>
              obtain ⟨j, xs, a10, a11, c10, c11, hj, rfl, hxs, rfl, rfl, ho, hp, hg⟩ := hrel
              have OO := Lib.hid ho
              have PP := Lib.hid hp
              have GI := Lib.hid hg
              have XS := Lib.hid hxs
              have xl : xs.length ≤ 32 := by rw [hxs]; exact Nat.le_trans (List.length_filter_le _ _) (by rw [List.length_take]; omega)
              have yl : (coreL ms xs).length = xs.length := by simp [coreL]
              have YL := Lib.hid yl
              clear ho hp hxs yl
              by_cases hlj : j < O.length
              · have j2 : (j : Int) < O.length := by omega
                obtain ⟨bo, oo, rfl, ⟨q0, _⟩⟩ := (SL.out.giI hg).one j hlj
                have qh := has_of_cell q0
                have hob := OB1.out _ (List.getElem_mem hlj)
                obtain ⟨k, hk⟩ : ∃ k : Nat, O[j] = (k : Int) := ⟨O[j].toNat, by omega⟩
                rw [hk] at q0 hob
                have hkm : k < ms.length := by omega
                have TS := Lib.hid (take_filter_succ (fun k => decide (k ≠ (i : Int))) O j hlj)
                rw [hk] at TS
                clear hg hk
                by_cases hki : k = i
                · subst hki
                  have T2 : Hid ((O.take (j + 1)).filter (fun q => decide (q ≠ (k : Int))) = xs) := Lib.hid (by rw [TS.out, XS.out]; simp)
                  go_wp2_with fail
                  go_roundw
                  case rel => exact ⟨j + 1, xs, a10, a11, c10, c11, by omega, by go_num, T2.out.symm, rfl, rfl, OO.out, PP.out, GI.out⟩
                  case measure => simp [intOf]; omega
                · have T2 : Hid ((O.take (j + 1)).filter (fun q => decide (q ≠ (i : Int))) = xs ++ [(k : Int)]) := Lib.hid (by rw [TS.out, XS.out, if_pos (decide_eq_true (by omega))])
                  have hb : ((k : Int) != (i : Int)) = true := by simp; omega
                  obtain ⟨bm, om, rfl, ⟨m0, _⟩, ⟨m1, _⟩, ⟨m2, _⟩⟩ := (lmts_gr HM.out HG.out) k hkm
                  have CS := Lib.hid (coreL_snoc ms xs k hkm)
                  clear TS
                  go_wp2_with fail
                  refine wp_code_eq (c := Code.region 19 (regIn 19 Tryz.f21) true) (by kernel_rfl) (le19 (W0 := wi) (wr := wr) (a10 := a10) (a11 := a11) (c10 := c10) (c11 := c11) (xs := xs) (ys := coreL ms xs) (ms := ms) (k := k) (bm := bm) (om := om) (cm := cm) (hk := hkm) GI.out OO.out PP.out m0 m1 m2 hml xl (by rw [YL.out]; exact xl) ?_)
                  intro t47 t48 t49 t50 t51 t52 t53 t54 t55 t56 t57 wx hgx hox hpx
                  simp only [le19A]
                  obtain ⟨a5, c5, rfl⟩ := owns_slice hox
                  obtain ⟨a6, c6, rfl⟩ := owns_slice hpx
                  have OX := Lib.hid hox
                  have PX := Lib.hid hpx
                  have GX := Lib.hid hgx
                  clear hox hpx hgx m0 m1 m2
                  go_wp2_with fail
                  go_roundw
                  case rel =>
                    refine ⟨j + 1, xs ++ [(k : Int)], a5, a6, c5, c6, by omega, by go_num, T2.out.symm, by simp, by rw [CS.out]; simp, ?_, ?_, GX.out⟩
                    · have := OX.out; simpa using this
                    · rw [CS.out]
                      have := PX.out; simpa using this
                  case measure => simp [intOf]; omega
              · obtain rfl : j = O.length := by omega
                rw [List.take_length] at XS
                have hxb : ∀ x ∈ xs, 0 ≤ x ∧ x < (ms.length : Int) := by
                  intro x hx
                  rw [XS.out] at hx
                  exact OB1.out x (List.mem_filter.1 hx).1
                have hyo : LsOk l (coreL ms xs) := by
                  refine ⟨by rw [YL.out]; omega, fun q hq => ?_⟩
                  have hq2 := List.getElem_mem hq
                  obtain ⟨p, hp, _, e⟩ := (coreL_at hxb).1 hq2
                  rw [← e]; exact LM.out p hp
                have hp' := PP.out
                obtain ⟨a7, c7, e7, s7⟩ := lmts_of_owns hp' hl hyo
                cases e7
                have EV : Env wr l (coreL ms xs) a11 am → True := fun _ => trivial
                have AL := Lib.hid (refAllN_any l (coreL ms xs) al a11 cl c11 wr ⟨clks_gr HE.out.clks (HG.out.trans hg), s7, HE.out.off.gr (HG.out.trans hg), HE.out.chk, hyo⟩)
                have SX := Lib.hid (nums_owned OO.out (fun x hx => by have := hxb x hx; unfold Wide; omega))
                have GX : Hid (refGo l ms (i + 1) = if cntS l (coreL ms xs) = 0 then xs else O) := Lib.hid (by rw [GO.out, ← XS.out])
                obtain ⟨N, hN⟩ : ∃ N, cntS l (coreL ms xs) = N := ⟨_, rfl⟩
                rw [hN] at AL GX
                clear hg hp' EV hxb hyo s7 GO XS hN
                go_wp2_with fail
                refine AL.out.mono ?_
                rintro e w5 ⟨aa, ca, rfl, hg5⟩
                have G5 := Lib.hid (GI.out.trans hg5)
                have SX5 := Lib.hid (SX.out.giI hg5)
                have SO5 := Lib.hid (SL.out.giI G5.out)
                clear hg5 AL SX
                by_cases h0 : N = 0
                · subst h0
                  have GX2 : Hid (refGo l ms (i + 1) = xs) := Lib.hid (by rw [GX.out, if_pos rfl])
                  clear GX
                  go_wp2_with fail
                  go_roundw
                  case rel => exact ⟨i + 1, a10, c10, by omega, by go_num, by rw [GX2.out], by rw [GX2.out]; exact SX5.out, HG.out.trans G5.out⟩
                  case measure => simp [intOf]; omega
                · have GX2 : Hid (refGo l ms (i + 1) = O) := Lib.hid (by rw [GX.out, if_neg h0])
                  have hb : ((N : Int) == 0) = false := by rw [beq_eq_false_iff_ne]; omega
                  clear GX h0
                  go_wp2_with fail
                  go_roundw
                  case rel => exact ⟨i + 1, A, c, by omega, by go_num, by rw [GX2.out], by rw [GX2.out]; exact SO5.out, HG.out.trans G5.out⟩
                  case measure => simp [intOf]; omega
          · obtain rfl : i = ms.length := by omega
            go_wp2_with fail
            go_ret2
            exact ⟨A, c, rfl, SL.out, HG.out⟩
  · have el : leL l ms = [] := by
      unfold leL
      by_cases hb : bgE l ms = 0
      · rw [if_pos hb]
        by_cases q : cntS l ms = 0
        · exfalso; apply hr; unfold rfE; rw [if_pos hb, if_pos q]
        · rw [if_neg q]
      · rw [if_neg hb]
    rw [el]
    obtain ⟨B, hB⟩ : ∃ B, rfE l ms = B := ⟨_, rfl⟩
    rw [hB] at RF hr ⊢
    have bb : (B != 0) = true := by simp [hr]
    clear h hB hr el
    go_enter Tryz.func21, Tryz.ntmps21
    go_wp2_with fail
    refine RF.out.mono ?_
    rintro e w1 ⟨rfl, hg1⟩
    go_wp2_with fail
    go_ret2
    exact ⟨none, 0, rfl, SlOf.nil _ _ _ _, hg1⟩
end Go.Proofs.YtenehghpmnajpaaGreatDoor

set_option linter.unusedVariables false
set_option linter.unusedSimpArgs false
namespace Go.Proofs.YtenehghpmnajpaaGreatDoor
open Go.RowKit
open Classical
abbrev BT := Brn × Option Addr × Nat
def blk (x : BT) : Option Nat := (Value.slice x.2.1 x.1.next.length x.2.2).ownBlock
/-- The lists of branches lie in rows of the call's own, no two in one block. -/
structure NextOwn (base : Nat) (w : World) (xs : List BT) : Prop where
  own : ∀ x ∈ xs, w.ownsRow base 3 1 (.slice x.2.1 x.1.next.length x.2.2) x.1.next.length (nums x.1.next)
  one : xs.Pairwise fun x y => blk x ≠ blk y
def BrnWd (x : Brn) : Prop := Wide x.limit ∧ Wide x.clock ∧ x.next.length ≤ 1000 ∧ ∀ y ∈ x.next, Wide y
theorem brn_read {base base' : Nat} {w : World} {A : Option Addr} {cap n : Nat} {xs : List BT} (hn : xs.length = n) (h : w.ownsRow base 81 3 (.slice A n cap) n (xs.flatMap encN)) (hx : ∀ x ∈ xs, w.ownsRow base' 3 1 (.slice x.2.1 x.1.next.length x.2.2) x.1.next.length (nums x.1.next)) (hw : ∀ x ∈ xs, BrnWd x.1) : SlOf 3 RBrn w A (xs.map (·.1)) := by
  intro k hk
  have hk' : k < xs.length := by simpa using hk
  obtain ⟨g, cap', e, _, _, hc⟩ := owns_cell h (by omega)
  cases e
  refine ⟨g, 0, rfl, ?_⟩
  have hf := fun j (hj : j < 3) => flat_at encN 3 (fun _ => rfl) xs k j hk' hj
  have h2 : ∀ j, j < 3 → w.cell? ⟨g, k * 3 + j, none⟩ = (encN xs[k])[j]? := fun j hj => by
    rw [hc (k * 3 + j) (by omega), hf j hj]
  rw [Nat.zero_add]
  obtain ⟨a1, b1, c1, d1⟩ := hw xs[k] (List.getElem_mem hk')
  obtain ⟨a', c', e, hcc, o1⟩ := owns_own1 (hx xs[k] (List.getElem_mem hk'))
  rw [List.getElem_map]
  have e2 : xs[k].2.1 = a' ∧ xs[k].2.2 = c' := by injection e with e1 _ e3; exact ⟨e1, e3⟩
  refine ⟨⟨h2 0 (by omega), a1⟩, ⟨h2 1 (by omega), b1⟩, ⟨_, _, h2 2 (by omega), by rw [e2.2]; exact hcc, by unfold Fit; omega, by rw [e2.1]; exact o1.slI fun j hj => d1 _ (List.getElem_mem hj)⟩⟩
theorem NextOwn.gr {base : Nat} {w w' : World} {xs : List BT} (h : NextOwn base w xs) (hg : Gr w w') : NextOwn base w' xs := ⟨fun x hx => Gr.owns (h.own x hx) hg, h.one⟩
theorem NextOwn.mv {b len base : Nat} {w w' : World} {xs : List BT} (h : NextOwn base w xs) (hm : Mv b len w w') (hb : b < base) : NextOwn base w' xs := ⟨fun x hx => hm.owns (h.own x hx) hb, h.one⟩
/-- A row of something else changed. -/
theorem NextOwn.oth {base base' e size n : Nat} {w w' : World} {xs : List BT} {v : Value} {us : List Value} (h : NextOwn base w xs) (o : w.ownsRow base' e size v n us) (he : e ≠ 3) (hg : w.grownBy w' v.ownBlock) : NextOwn base w' xs := ⟨fun x hx => (h.own x hx).kept hg (owns_two o (h.own x hx) he), h.one⟩
theorem NextOwn.setc {base B o T : Nat} {w : World} {xs : List BT} {us : List Value} {v : Value} (h : NextOwn base w xs) (r : RowS w B T us) (hT : T ≠ 3) : NextOwn base (w.setCell ⟨B, o, none⟩ v) xs := ⟨fun x hx => owns_set (h.own x hx) r hT, h.one⟩
/-- A row that was made later changed. -/
theorem NextOwn.new {base : Nat} {w0 w w' : World} {xs : List BT} {row : Option Nat} (h0 : NextOwn base w0 xs) (h : NextOwn base w xs) (hg : w.grownBy w' row) (hr : ∀ k, row = some k → w0.heap.size ≤ k) : NextOwn base w' xs := ⟨fun x hx => by
  refine (h.own x hx).kept hg ?_
  cases e : (Value.slice x.2.1 x.1.next.length x.2.2).ownBlock with
  | none => exact .inl rfl
  | some k =>
    refine .inr fun q => ?_
    have h1 := hr k q.symm
    have h2 := ((h0.own x hx).lt k e).2
    omega, h.one⟩
theorem NextOwn.snoc {base : Nat} {w : World} {xs : List BT} {x : BT} (h : NextOwn base w xs) (ho : w.ownsRow base 3 1 (.slice x.2.1 x.1.next.length x.2.2) x.1.next.length (nums x.1.next)) (hn : ∀ y ∈ xs, blk y ≠ blk x) : NextOwn base w (xs ++ [x]) := by
  refine ⟨fun y hy => ?_, ?_⟩
  · rcases List.mem_append.1 hy with hy | hy
    · exact h.own y hy
    · rw [List.mem_singleton.1 hy]; exact ho
  · rw [List.pairwise_append]
    exact ⟨h.one, by simp, fun y hy z hz => by rw [List.mem_singleton.1 hz]; exact hn y hy⟩
theorem encN_set0 (xs : List BT) (i : Nat) (hi : i < xs.length) (y : Int) : (xs.flatMap encN).set (i * 3) (.int .i64 y) = (xs.set i (⟨y, xs[i].1.clock, xs[i].1.next⟩, xs[i].2.1, xs[i].2.2)).flatMap encN := by
  induction xs generalizing i with
  | nil => simp at hi
  | cons x xs ih =>
    cases i with
    | zero => simp [encN]
    | succ i =>
      have := ih i (by simpa using hi)
      have e : (i + 1) * 3 = i * 3 + 3 := by omega
      rw [e]
      simp only [List.flatMap_cons, List.set_cons_succ, List.getElem_cons_succ]
      rw [← this]
      simp [encN]
theorem encN_set1 (xs : List BT) (i : Nat) (hi : i < xs.length) (y : Int) : (xs.flatMap encN).set (i * 3 + 1) (.int .i64 y) = (xs.set i (⟨xs[i].1.limit, y, xs[i].1.next⟩, xs[i].2.1, xs[i].2.2)).flatMap encN := by
  induction xs generalizing i with
  | nil => simp at hi
  | cons x xs ih =>
    cases i with
    | zero => simp [encN]
    | succ i =>
      have := ih i (by simpa using hi)
      have e : (i + 1) * 3 + 1 = (i * 3 + 1) + 3 := by omega
      rw [e]
      simp only [List.flatMap_cons, List.set_cons_succ, List.getElem_cons_succ]
      rw [← this]
      simp [encN]
theorem mem_set_or {α : Type} {xs : List α} {i : Nat} {x y : α} (h : y ∈ xs.set i x) : y = x ∨ y ∈ xs := (List.mem_or_eq_of_mem_set h).symm
/-- What bent gives: some branches. -/
def GivesBent (b len : Nat) (w : World) (e : Ending) (w' : World) : Prop :=
  ∃ (bs : List Brn) (A : Option Addr) (cap : Nat), e = .returned (.slice A bs.length cap) ∧ SlOf 3 RBrn w' A bs ∧ bs.length ≤ 100000 ∧ Mv b len w w'
end Go.Proofs.YtenehghpmnajpaaGreatDoor

set_option linter.unusedVariables false
set_option linter.unusedSimpArgs false
namespace Go.Proofs.YtenehghpmnajpaaGreatDoor
open Go.RowKit
open Classical
theorem gets_slI {w : World} {a : Option Addr} {xs : List Int} (h : SlOf 1 RI w a xs) : Gets w a xs.length 1 (nums xs) := by
  refine ⟨by simp [nums], fun h0 => ?_⟩
  obtain ⟨g, o, rfl, _⟩ := h 0 (by omega)
  refine ⟨_, rfl, fun j u hu => ?_⟩
  have hj : j < xs.length := by
    have := (List.getElem?_eq_some_iff.1 hu).1
    simpa [nums] using this
  obtain ⟨g', o', e, c, _⟩ := h j hj
  cases e
  simp only [nums, List.getElem?_map, List.getElem?_eq_getElem hj, Option.map_some] at hu
  injection hu with hu
  rw [← hu, Addr.add_lit]
  rw [Nat.mul_one] at c
  exact c
/-- What stays while branches are bent. -/
structure BSt (b len : Nat) (w : World) (xs : List BT) (g cap : Nat) (W : World) : Prop where
  own : W.ownsRow w.heap.size 81 3 (.slice (some ⟨g, 0, none⟩) xs.length cap) xs.length (xs.flatMap encN)
  nxt : NextOwn w.heap.size W xs
  wd : ∀ x ∈ xs, BrnWd x.1
  mv : Mv b len w W
section
variable {b len : Nat} {w W W' : World} {xs : List BT} {g cap : Nat}
theorem BSt.gr (h : BSt b len w xs g cap W) (hg : Gr W W') : BSt b len w xs g cap W' := ⟨Gr.owns h.own hg, h.nxt.gr hg, h.wd, h.mv.gr hg⟩
theorem BSt.mvd (h : BSt b len w xs g cap W) (hb : b < w.heap.size) (m : Mv b len W W') : BSt b len w xs g cap W' := ⟨m.owns h.own hb, h.nxt.mv m hb, h.wd, h.mv.trans hb m⟩
theorem BSt.gives (h : BSt b len w xs g cap W) (hl : xs.length ≤ 100000) : GivesBent b len w (.returned (.slice (some ⟨g, 0, none⟩) xs.length cap)) W :=
  ⟨xs.map (·.1), some ⟨g, 0, none⟩, cap, by simp, brn_read rfl h.own h.nxt.own h.wd, by simpa using hl, h.mv⟩
theorem BSt.at (h : BSt b len w xs g cap W) {k : Nat} (hk : k < xs.length) : W.cell? ⟨g, k * 3, none⟩ = some (.int .i64 xs[k].1.limit) ∧ W.cell? ⟨g, k * 3 + 1, none⟩ = some (.int .i64 xs[k].1.clock) ∧ W.cell? ⟨g, k * 3 + 2, none⟩ = some (.slice xs[k].2.1 xs[k].1.next.length xs[k].2.2) ∧ Has W g ∧ ∀ j, W.frozen? ⟨g, j, none⟩ = false := by
  have hf := fun j (hj : j < 3) => flat_at encN 3 (fun _ => rfl) xs k j hk hj
  have h0 : W.cell? ⟨g, k * 3, none⟩ = some (.int .i64 xs[k].1.limit) := by rw [h.own.cellAt (k * 3) (by omega)]; exact (hf 0 (by omega)).trans rfl
  have h1 : W.cell? ⟨g, k * 3 + 1, none⟩ = some (.int .i64 xs[k].1.clock) := by rw [h.own.cellAt (k * 3 + 1) (by omega), hf 1 (by omega)]; rfl
  have h2 : W.cell? ⟨g, k * 3 + 2, none⟩ = some (.slice xs[k].2.1 xs[k].1.next.length xs[k].2.2) := by rw [h.own.cellAt (k * 3 + 2) (by omega), hf 2 (by omega)]; rfl
  exact ⟨h0, h1, h2, has_of_cell h0, fun j => h.own.frozenAt j⟩
theorem BSt.low (h : BSt b len w xs g cap W) : w.heap.size ≤ g := (h.own.lt g rfl).1
/-- A limit or a clock of a branch is changed. -/
theorem BSt.put (h : BSt b len w xs g cap W) {k j : Nat} (hk : k < xs.length) (hj : j < 3) (x : Brn) (hx : x.next = xs[k].1.next) (hw : BrnWd x) (v : Value) (he : (xs.flatMap encN).set (k * 3 + j) v = (xs.set k (x, xs[k].2.1, xs[k].2.2)).flatMap encN) : BSt b len w (xs.set k (x, xs[k].2.1, xs[k].2.2)) g cap (W.setCell ⟨g, k * 3 + j, none⟩ v) where
  own := by
    have := owns_put h.own (j := k * 3 + j) (by omega) v
    rw [he] at this
    rw [List.length_set]; exact this
  nxt := by
    have hg := grownBy_set W g (k * 3 + j) v
    have h2 := h.nxt.oth h.own (by decide) hg
    refine ⟨fun y hy => ?_, ?_⟩
    · rcases mem_set_or hy with rfl | hy
      · simp only [hx]; exact h2.own _ (List.getElem_mem hk)
      · exact h2.own _ hy
    · have e : (xs.set k (x, xs[k].2.1, xs[k].2.2)).map blk = xs.map blk := by
        rw [List.map_set]
        have : blk (x, xs[k].2.1, xs[k].2.2) = (xs.map blk)[k]'(by simpa using hk) := by simp only [List.getElem_map, blk, hx]
        rw [this, List.set_getElem_self]
      have p := List.pairwise_map (f := blk) (R := fun a b => a ≠ b) |>.2 h.nxt.one
      rw [← e] at p
      exact List.pairwise_map.1 p
  wd := fun y hy => by
    rcases mem_set_or hy with rfl | hy
    · exact hw
    · exact h.wd _ hy
  mv := h.mv.setc h.low
theorem slOf_take {n : Nat} {α : Type} {R : World → Nat → Nat → α → Prop} {w : World} {a : Option Addr} {l : List α} (m : Nat) (h : SlOf n R w a l) : SlOf n R w a (l.take m) := by
  intro k hk
  have hk' : k < l.length := by simp at hk; omega
  obtain ⟨b, o, e, q⟩ := h k hk'
  exact ⟨b, o, e, by rw [List.getElem_take]; exact q⟩
/-- The last branch is left out. -/
theorem BSt.less (h : BSt b len w xs g cap W) (hl : xs.length ≤ 100000) {n : Nat} (hn : xs.length = n) {v : Int} (hv : v = (n : Int) - 1) (h1 : 1 ≤ n) {m : Nat} (hm : m = n - 1) : GivesBent b len w (.returned (.slice (some ⟨g, 0, none⟩) m cap)) W := by
  refine ⟨(xs.map (·.1)).take m, some ⟨g, 0, none⟩, cap, ?_, slOf_take m (brn_read rfl h.own h.nxt.own h.wd), ?_, h.mv⟩
  · rw [List.length_take, List.length_map, Nat.min_eq_left (by omega)]
  · rw [List.length_take, List.length_map]; omega
/-- A branch without a list is appended. -/
theorem BSt.more (h : BSt b len w xs g cap W) (hl : xs.length ≤ 90000) {y : Int} (hy : Wide y) {W' : World} {A : Option Addr} {c : Nat} (ho : W'.ownsRow w.heap.size 81 3 (.slice A (xs.length + 1) c) (xs.length + 1) (xs.flatMap encN ++ [.int .i64 y, .int .i64 0, .slice none 0 0])) (hg : W.grownBy W' (some g)) : GivesBent b len w (.returned (.slice A (xs.length + 1) c)) W' := by
  have h2 := h.nxt.oth h.own (by decide) hg
  have hr := brn_read (xs := xs ++ [(⟨y, 0, []⟩, none, 0)]) (n := xs.length + 1) (by simp) (by simpa [encN] using ho)
    (fun z hz => by
      rcases List.mem_append.1 hz with hz | hz
      · exact h2.own z hz
      · rw [List.mem_singleton.1 hz]; exact World.ownsRow_nil _ w.heap.size _ _)
    (fun z hz => by
      rcases List.mem_append.1 hz with hz | hz
      · exact h.wd z hz
      · rw [List.mem_singleton.1 hz]; exact ⟨hy, (by show Wide 0; unfold Wide; omega), by simp, by simp⟩)
  exact ⟨_, A, c, by simp, hr, by simp; omega, h.mv.grown hg (fun k e => by cases e; exact h.low)⟩
/-- A branch's list is another. -/
theorem BSt.next (h : BSt b len w xs g cap W) (hl : xs.length ≤ 100000) {k : Nat} (hk : k < xs.length) {ns : List Int} (hn : ns.length ≤ 1000) (hw : ∀ y ∈ ns, Wide y) {W' : World} {A : Option Addr} {m c : Nat} (hm : ns.length = m) (ho : W'.ownsRow w.heap.size 3 1 (.slice A m c) m (nums ns)) (hg : W.grownBy W' (blk xs[k])) : GivesBent b len w (.returned (.slice (some ⟨g, 0, none⟩) xs.length cap)) (W'.setCell ⟨g, k * 3 + 2, none⟩ (.slice A m c)) := by
  subst hm
  have hown : W'.ownsRow w.heap.size 81 3 (.slice (some ⟨g, 0, none⟩) xs.length cap) xs.length (xs.flatMap encN) := h.own.kept hg (owns_two (h.nxt.own _ (List.getElem_mem hk)) h.own (by decide))
  have hs := grownBy_set W' g (k * 3 + 2) (.slice A ns.length c)
  have ho2 : (W'.setCell ⟨g, k * 3 + 2, none⟩ (.slice A ns.length c)).ownsRow w.heap.size 3 1 (.slice A ns.length c) ns.length (nums ns) := ho.kept hs (owns_two hown ho (by decide))
  have hp := owns_put hown (j := k * 3 + 2) (by omega) (.slice A ns.length c)
  rw [encN_set xs k hk] at hp
  have hr := brn_read (xs := xs.set k (⟨xs[k].1.limit, xs[k].1.clock, ns⟩, A, c)) (n := xs.length) (by simp) hp
    (fun z hz => by
      obtain ⟨j, hj, rfl⟩ := List.getElem_of_mem hz
      have hj' : j < xs.length := by simpa using hj
      rw [List.getElem_set]
      split
      · exact ho2
      · rename_i hne
        have q : blk xs[j] ≠ blk xs[k] := by
          have pw := List.pairwise_iff_getElem.1 h.nxt.one
          rcases Nat.lt_or_gt_of_ne hne with q | q
          · exact fun e => pw k j hk hj' q e.symm
          · exact pw j k hj' hk q
        have h3 := (h.nxt.own _ (List.getElem_mem hj')).kept hg (.inr q)
        exact h3.kept hs (owns_two hown h3 (by decide)))
    (fun z hz => by
      rcases mem_set_or hz with rfl | hz
      · obtain ⟨a1, b1, _, _⟩ := h.wd _ (List.getElem_mem hk)
        exact ⟨a1, b1, hn, hw⟩
      · exact h.wd _ hz)
  refine ⟨_, some ⟨g, 0, none⟩, cap, by simp, hr, by simpa using hl, (h.mv.grown hg (fun B e => ((h.nxt.own _ (List.getElem_mem hk)).lt B e).1)).setc h.low⟩
end
theorem brns_wide {w : World} {a : Option Addr} {bs : List Brn} (h : SlOf 3 RBrn w a bs) (hn : ∀ x ∈ bs, x.next.length ≤ 900) : ∀ x ∈ bs, BrnWd x := by
  intro x hx
  obtain ⟨k, hk, rfl⟩ := List.getElem_of_mem hx
  obtain ⟨g, o, e, ⟨_, w0⟩, ⟨_, w1⟩, a2, p2, _, _, _, s2⟩ := h k hk
  refine ⟨w0, w1, Nat.le_trans (hn _ hx) (by omega), fun y hy => ?_⟩
  obtain ⟨j, hj, rfl⟩ := List.getElem_of_mem hy
  obtain ⟨_, _, _, _, hw⟩ := s2 j hj
  exact hw
end Go.Proofs.YtenehghpmnajpaaGreatDoor
