/- Lists of writes of clocks in memory; contract of the reference's SameWrites. Contracts of law18's three and awake. (several texts in one, by wip/tools/merge.py) -/
import Derived.Test.YtenehghpmnajpaaGreatDoorKp
import Derived.Test.YtenehghpmnajpaaGreatDoorTr
/-! Lists of writes of clocks in memory; contract of the reference's SameWrites. -/
set_option linter.unusedVariables false
set_option linter.unusedSimpArgs false
namespace Go.Proofs.YtenehghpmnajpaaGreatDoor
open Go.RowKit
open Classical

/-- A write of a clock. -/
def RWc (w : World) (b o : Nat) (p : Int × Int) : Prop := RI w b o 1 ∧ RI w b (o + 1) p.1 ∧ RI w b (o + 2) p.2
theorem RWc.mono : Mono RWc := fun _ _ _ _ _ hg ⟨h0, h1, h2⟩ => ⟨RI.mono _ _ _ _ _ hg h0, RI.mono _ _ _ _ _ hg h1, RI.mono _ _ _ _ _ hg h2⟩
def WideW (ps : List (Int × Int)) : Prop := ∀ p ∈ ps, Wide p.1 ∧ Wide p.2
theorem writes_at {w : World} {base : Nat} {v : Value} {ps : List (Int × Int)} (h : w.ownsRow base 65 3 v ps.length (ps.flatMap encW)) (hw : WideW ps) : ∃ a c, v = .slice a ps.length c ∧ ps.length ≤ c ∧ SlOf 3 RWc w a ps := by
  rcases Nat.eq_zero_or_pos ps.length with e | e
  · have : ps = [] := List.eq_nil_of_length_eq_zero e
    subst this
    obtain ⟨a, c, e⟩ := owns_slice h
    exact ⟨a, c, e, Nat.zero_le _, SlOf.nil _ _ _ _⟩
  · obtain ⟨g, cap, e1, h1, _, hc⟩ := owns_cell h e
    refine ⟨_, cap, e1, h1, fun k hk => ⟨g, 0, rfl, ?_⟩⟩
    have hf := fun j (hj : j < 3) => flat_at encW 3 (fun _ => rfl) ps k j hk hj
    have h2 : ∀ j, j < 3 → w.cell? ⟨g, k * 3 + j, none⟩ = (encW ps[k])[j]? := fun j hj => by
      rw [hc (k * 3 + j) (by omega), hf j hj]
    have hwk := hw _ (List.getElem_mem hk)
    rw [Nat.zero_add]
    exact ⟨⟨h2 0 (by omega), by unfold Wide; omega⟩, ⟨h2 1 (by omega), hwk.1⟩, ⟨h2 2 (by omega), hwk.2⟩⟩
theorem neq_write (a b c d e f : Int) (w : World) : (binOp .neq 65 (.agg #[.int .i64 a, .int .i64 b, .int .i64 c]) (.agg #[.int .i64 d, .int .i64 e, .int .i64 f])).run Tryz.prog w = .ok (.bool (!(a == d && b == e && c == f))) w := by
  have hu : Tryz.prog.underlying 65 = some (.struct (Tryz.prog.fieldsOf 65)) := by kernel_rfl
  have hs : Tryz.prog.stoodInHeld 65 = false := by kernel_rfl
  rw [run_neq_struct, run_equalIn_agg w 9999 _ _ _ hu hs]
  cases h1 : (a == d) <;> cases h2 : (b == e) <;> cases h3 : (c == f) <;> simp [go_sem, h1, h2, h3]
set_option maxRecDepth 100000 in
set_option maxHeartbeats 1000000 in
theorem sameWrites_any (xs ys : List (Int × Int)) (ax ay : Option Addr) (cx cy : Nat) (w : World) (hx : SlOf 3 RWc w ax xs) (hy : SlOf 3 RWc w ay ys) (fx : Fit xs.length) (fy : Fit ys.length) :
    Calls Tryz.prog 38 #[.slice ax xs.length cx, .slice ay ys.length cy] w fun e w' => e = .returned (.bool (decide (xs = ys))) ∧ Gr w w' := by
  unfold Fit at fx fy
  have HX := Lib.hid hx
  have HY := Lib.hid hy
  have NQ := neq_write
  clear hx hy
  by_cases hl : xs.length = ys.length
  · have hlb : ((xs.length : Int) != (ys.length : Int)) = false := by simp [hl]
    have HL := Lib.hid hl
    clear hl
    go_enter Tryz.func38, Tryz.ntmps38
    go_wp2
    go_loopw [13] (fun i wr => ∃ k : Nat, k ≤ xs.length ∧ i = .int .i64 k ∧ (∀ j (h : j < xs.length) (h' : j < ys.length), j < k → xs[j] = ys[j]) ∧ Gr w wr) (fun i _ => xs.length - (intOf i).toNat)
    case atStart => exact ⟨0, Nat.zero_le _, rfl, fun j _ _ h => absurd h (by omega), Gr.refl _⟩
    case round =>
      obtain ⟨k, hk, rfl, hall, hg⟩ := hrel
      have HA := Lib.hid hall
      have HG := Lib.hid hg
      by_cases hlt : k < xs.length
      · have hlt2 : k < ys.length := by have := HL.out; omega
        obtain ⟨b, o, rfl, ⟨p0, _⟩, ⟨p1, _⟩, ⟨p2, _⟩⟩ := HX.out.gr RWc.mono hg k hlt
        obtain ⟨b', o', rfl, ⟨q0, _⟩, ⟨q1, _⟩, ⟨q2, _⟩⟩ := HY.out.gr RWc.mono hg k hlt2
        have k2 : (k : Int) < xs.length := by omega
        have k3 : (k : Int) < ys.length := by omega
        clear hall hg
        by_cases he : xs[k] = ys[k]
        · have b1 : (xs[k].1 == ys[k].1) = true := by rw [he]; simp
          have b2 : (xs[k].2 == ys[k].2) = true := by rw [he]; simp
          have HE := Lib.hid he
          clear he
          go_wp2_with fail
          go_quiet (fail)
          go_wp2_with fail
          go_roundw
          case rel =>
            refine ⟨k + 1, by omega, by go_num, fun j h1 h2 hj => ?_, by first | exact HG.out | exact HG.out.drewN _⟩
            by_cases e : j = k
            · subst e; exact HE.out
            · exact HA.out j h1 h2 (by omega)
          case measure => simp [intOf]; omega
        · have HE := Lib.hid (show ¬ xs = ys from fun q => he (by subst q; rfl))
          have bb : (xs[k].1 == ys[k].1 && xs[k].2 == ys[k].2) = false := by
            cases h1 : (xs[k].1 == ys[k].1) <;> cases h2 : (xs[k].2 == ys[k].2) <;> simp_all
            exact he (Prod.ext h1 h2)
          clear he
          go_wp2_with fail
          go_quiet (fail)
          go_wp2_with fail
          go_ret
          exact ⟨ret_bool (decide_eq_false HE.out).symm, by first | exact HG.out | exact HG.out.drewN _⟩
      · have HE : Hid (xs = ys) := Lib.hid (eq_all HL.out fun j h1 h2 => HA.out j h1 h2 (by omega))
        go_wp2
        go_ret
        exact ⟨ret_bool (decide_eq_true HE.out).symm, HG.out⟩
  · have hlb : ((xs.length : Int) != (ys.length : Int)) = true := by simp; omega
    go_enter Tryz.func38, Tryz.ntmps38
    go_wp2
    go_ret
    exact ⟨ret_bool (decide_eq_false (fun q => hl (by rw [q]))).symm, Gr.refl _⟩
end Go.Proofs.YtenehghpmnajpaaGreatDoor

/-! Contracts of law18's three and awake. -/
set_option linter.unusedVariables false
set_option linter.unusedSimpArgs false
namespace Go.Proofs.YtenehghpmnajpaaGreatDoor
open Go.RowKit
open Classical

set_option maxRecDepth 100000 in
set_option maxHeartbeats 1000000 in
theorem three_any (w : World) : Calls Tryz.prog 78 #[] w fun e w' => ∃ B, e = .returned (.slice (some ⟨B, 0, none⟩) 3 3) ∧ SlOf 5 RClk w' (some ⟨B, 0, none⟩) threeL ∧ Gr w w' := by
  go_enter Tryz.func78, Tryz.ntmps78
  go_wp2_with fail
  obtain ⟨w5, hw5⟩ : ∃ w5 : World, Hid (w5 = ((((w.alloc (.cells #[.int .i64 24] 3)).alloc (.cells #[.int .i64 0] 3)).alloc (.cells #[.int .i64 1, .int .i64 4] 3)).alloc (.cells #[.int .i64 1] 3)).alloc (.cells #[.int .i64 1, .int .i64 4] 3)) := ⟨_, Lib.hid rfl⟩
  rw [← hw5.out]
  have a0 : Row w5 w.heap.size 3 (nums [24]) := by
    rw [hw5.out]; exact ((((row_new' w #[.int .i64 24] 3 _ rfl).alloc _).alloc _).alloc _).alloc _
  have a1 : Row w5 (w.heap.size + 1) 3 (nums [0]) := by
    rw [hw5.out]; exact (((row_new' _ #[.int .i64 0] 3 _ (by simp)).alloc _).alloc _).alloc _
  have a2 : Row w5 (w.heap.size + 1 + 1) 3 (nums [1, 4]) := by
    rw [hw5.out]; exact ((row_new' _ #[.int .i64 1, .int .i64 4] 3 _ (by simp)).alloc _).alloc _
  have a3 : Row w5 (w.heap.size + 1 + 1 + 1) 3 (nums [1]) := by
    rw [hw5.out]; exact (row_new' _ #[.int .i64 1] 3 _ (by simp)).alloc _
  have a4 : Row w5 (w.heap.size + 1 + 1 + 1 + 1) 3 (nums [1, 4]) := by
    rw [hw5.out]; exact row_new' _ #[.int .i64 1, .int .i64 4] 3 _ (by simp)
  have z5 : w5.heap.size = w.heap.size + 1 + 1 + 1 + 1 + 1 := by rw [hw5.out]; simp
  have g5 : Gr w w5 := by rw [hw5.out]; exact (((((Gr.refl w).alloc _).alloc _).alloc _).alloc _).alloc _
  go_ret
  obtain ⟨arr, harr⟩ : ∃ arr, arr = #[Value.int .i64 1, .slice none 0 0, .slice (some ⟨w.heap.size, 0, none⟩) 1 1, .int .i64 0, .int .i64 0, .int .i64 3, .slice (some ⟨w.heap.size + 1, 0, none⟩) 1 1, .slice (some ⟨w.heap.size + 1 + 1, 0, none⟩) 2 2, .int .i64 0, .int .i64 0, .int .i64 2, .slice (some ⟨w.heap.size + 1 + 1 + 1, 0, none⟩) 1 1, .slice (some ⟨w.heap.size + 1 + 1 + 1 + 1, 0, none⟩) 2 2, .int .i64 0, .int .i64 0] := ⟨_, rfl⟩
  rw [← harr]
  have r := row_new' w5 arr 79 _ z5.symm
  have G := (Gr.refl w5).alloc (.cells arr 79)
  obtain ⟨w6, hw6⟩ : ∃ w6 : World, w6 = w5.alloc (.cells arr 79) := ⟨_, rfl⟩
  rw [← hw6] at r G ⊢
  have b0 := a0.gr G
  have b1 := a1.gr G
  have b2 := a2.gr G
  have b3 := a3.gr G
  have b4 := a4.gr G
  have wd : ∀ xs : List Int, (∀ x ∈ xs, 0 ≤ x ∧ x ≤ 100) → ∀ k (hk : k < xs.length), Wide xs[k] := fun xs h k hk => by
    have := h _ (List.getElem_mem hk); unfold Wide; omega
  have c := fun j (hj : j < 15) => r.cell j (by rw [harr]; exact hj)
  refine ⟨_, rfl, ?_, g5.trans G⟩
  subst harr
  intro k hk
  have : k = 0 ∨ k = 1 ∨ k = 2 := by simp [threeL] at hk; omega
  have wi : ∀ x : Int, 0 ≤ x → x ≤ 100 → Wide x := fun x h h' => by unfold Wide; omega
  rcases this with rfl | rfl | rfl
  · refine ⟨_, 0, rfl, ⟨c 0 (by omega), wi _ (by simp [threeL]) (by simp [threeL])⟩, ⟨none, 0, c 1 (by omega), by simp [threeL], by simp [threeL, Fit], SlOf.nil _ _ _ _⟩, ⟨_, 1, c 2 (by omega), by simp [threeL], by simp [threeL, Fit], b0.s.slI (wd _ (by simp))⟩, ⟨c 3 (by omega), wi _ (by simp [threeL]) (by simp [threeL])⟩, ⟨c 4 (by omega), wi _ (by simp [threeL]) (by simp [threeL])⟩⟩
  · refine ⟨_, 0, rfl, ⟨c 5 (by omega), wi _ (by simp [threeL]) (by simp [threeL])⟩, ⟨_, 1, c 6 (by omega), by simp [threeL], by simp [threeL, Fit], b1.s.slI (wd _ (by simp))⟩, ⟨_, 2, c 7 (by omega), by simp [threeL], by simp [threeL, Fit], b2.s.slI (wd _ (by simp))⟩, ⟨c 8 (by omega), wi _ (by simp [threeL]) (by simp [threeL])⟩, ⟨c 9 (by omega), wi _ (by simp [threeL]) (by simp [threeL])⟩⟩
  · refine ⟨_, 0, rfl, ⟨c 10 (by omega), wi _ (by simp [threeL]) (by simp [threeL])⟩, ⟨_, 1, c 11 (by omega), by simp [threeL], by simp [threeL, Fit], b3.s.slI (wd _ (by simp))⟩, ⟨_, 2, c 12 (by omega), by simp [threeL], by simp [threeL, Fit], b4.s.slI (wd _ (by simp))⟩, ⟨c 13 (by omega), wi _ (by simp [threeL]) (by simp [threeL])⟩, ⟨c 14 (by omega), wi _ (by simp [threeL]) (by simp [threeL])⟩⟩
theorem writes_row {w : World} {B : Nat} {ps : List (Int × Int)} (h : Row w B 65 (ps.flatMap encW)) (hw : WideW ps) : SlOf 3 RWc w (some ⟨B, 0, none⟩) ps := fun k hk => by
  have hf := fun j (hj : j < 3) => flat_at encW 3 (fun _ => rfl) ps k j hk hj
  have hl := encW_len ps
  have h2 : ∀ j, j < 3 → w.cell? ⟨B, k * 3 + j, none⟩ = (encW ps[k])[j]? := fun j hj => by
    rw [← hf j hj, h.cell (k * 3 + j) (by rw [hl]; omega)]
    rw [List.getElem?_eq_getElem (by rw [hl]; omega)]
  have hwk := hw _ (List.getElem_mem hk)
  refine ⟨B, 0, rfl, ?_⟩
  rw [Nat.zero_add]
  exact ⟨⟨h2 0 (by omega), by unfold Wide; omega⟩, ⟨h2 1 (by omega), hwk.1⟩, ⟨h2 2 (by omega), hwk.2⟩⟩
set_option maxRecDepth 100000 in
set_option maxHeartbeats 1000000 in
theorem awake_any (w : World) (hoff : OffV w) : Calls Tryz.prog 29 #[] w (Grows w (.bool true)) := by
  have HO := Lib.hid hoff
  clear hoff
  go_enter Tryz.func29, Tryz.ntmps29
  go_wp2_with fail
  refine (three_any w).mono ?_
  rintro e w1 ⟨B, rfl, hs, hg⟩
  have S1 := Lib.hid hs
  have G1 := Lib.hid hg
  clear hs hg
  go_wp2_with fail
  obtain ⟨W2, hW2⟩ : ∃ W2 : World, Hid (W2 = ((w1.alloc (.cells #[.int .i64 0, .int .i64 0, .int .i64 0] 3)).alloc (.cells #[.int .i64 0, .int .i64 1, .int .i64 1] 3)).alloc (.cells #[.int .i64 2, .int .i64 0, .int .i64 24] 35)) := ⟨_, Lib.hid rfl⟩
  rw [← hW2.out]
  have g2 : Gr w1 W2 := by rw [hW2.out]; exact (((Gr.refl _).alloc _).alloc _).alloc _
  have rf : Row W2 w1.heap.size 3 (nums [0, 0, 0]) := by rw [hW2.out]; exact ((row_new' w1 #[.int .i64 0, .int .i64 0, .int .i64 0] 3 _ rfl).alloc _).alloc _
  have rt : Row W2 (w1.heap.size + 1) 3 (nums [0, 1, 1]) := by rw [hW2.out]; exact (row_new' _ #[.int .i64 0, .int .i64 1, .int .i64 1] 3 _ (by simp)).alloc _
  have rm : Row W2 (w1.heap.size + 1 + 1) 35 [.int .i64 2, .int .i64 0, .int .i64 24] := by rw [hW2.out]; exact row_new' _ #[.int .i64 2, .int .i64 0, .int .i64 24] 35 _ (by simp)
  have sm : SlOf 3 RLmt W2 (some ⟨w1.heap.size + 1 + 1, 0, none⟩) threeM := fun k hk => by
    have : k = 0 := by simp [threeM] at hk; omega
    subst this
    exact ⟨_, 0, rfl, ⟨rm.cell 0 (by simp), by simp [threeM, Wide]⟩, ⟨rm.cell 1 (by simp), by simp [threeM, Wide]⟩, ⟨rm.cell 2 (by simp), by simp [threeM, Wide]⟩⟩
  have env : Env W2 threeL threeM (some ⟨B, 0, none⟩) (some ⟨w1.heap.size + 1 + 1, 0, none⟩) := ⟨clks_gr S1.out g2, sm, (HO.out.gr G1.out).gr g2, three_chk, three_lims⟩
  have s0 : SetOk threeL [0, 0, 0] := three_set (by omega) (by omega)
  have s1 : SetOk threeL [0, 1, 1] := three_set (by omega) (by omega)
  have PL := plan_any threeL threeM [0, 0, 0] [0, 1, 1] _ _ _ _ 3 1 3 3 W2 env s0 s1 (rf.s.slI (setOk_wide three_chk s0)) (rt.s.slI (setOk_wide three_chk s1))
  have PL' := Lib.hid PL
  have G2 := Lib.hid (G1.out.trans g2)
  clear PL env sm rm rt rf g2 hW2 s0 s1
  refine PL'.out.mono ?_
  rintro e w3 ⟨hg3, _, hr⟩
  obtain ⟨D, hD, _, hsome⟩ := hr (by rw [cal_00, cal_11]; rfl)
  have hdd := (three_dist cal_00 cal_01 cal_10 cal_11 hD).2.2
  obtain ⟨v, rfl, ho⟩ := hsome 2 hdd
  rw [three_plan cal_00 cal_01 cal_10 cal_11 hD] at ho
  have hww : WideW [((2 : Int), (1 : Int)), (1, 1)] := by intro p hp; simp at hp; rcases hp with rfl | rfl <;> simp [Wide]
  obtain ⟨a, c, rfl, _, sl⟩ := writes_at ho hww
  have SL := Lib.hid sl
  have G3 := Lib.hid (G2.out.trans hg3)
  have HW := Lib.hid hww
  clear sl ho hsome hr hdd hD hg3 PL' hww
  go_wp2_with fail
  have gw := (Gr.refl w3).alloc (.cells #[.int .i64 1, .int .i64 2, .int .i64 1, .int .i64 1, .int .i64 1, .int .i64 1] 65)
  have SW := sameWrites_any [((2 : Int), (1 : Int)), (1, 1)] [((2 : Int), (1 : Int)), (1, 1)] a (some ⟨w3.heap.size, 0, none⟩) c 2 _ (SL.out.gr RWc.mono gw) (writes_row (Row.new w3 #[.int .i64 1, .int .i64 2, .int .i64 1, .int .i64 1, .int .i64 1, .int .i64 1] 65) HW.out) (by unfold Fit; simp) (by unfold Fit; simp)
  rw [decide_eq_true rfl] at SW
  refine SW.mono ?_
  rintro e w5 ⟨rfl, hg5⟩
  have G5 := Lib.hid ((G3.out.trans gw).trans hg5)
  clear gw hg5 SW
  go_wp2_with fail
  go_ret
  exact ⟨rfl, G5.out⟩
end Go.Proofs.YtenehghpmnajpaaGreatDoor
