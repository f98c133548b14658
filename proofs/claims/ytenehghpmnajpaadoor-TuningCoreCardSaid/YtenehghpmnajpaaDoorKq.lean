/- Lists of writes of clocks in memory; contract of the reference's SameWrites. Plain: the example of the chapter. No program in sight. (several texts in one, by wip/tools/merge.py) -/
import Derived.Test.YtenehghpmnajpaaDoorKp
import Derived.Test.YtenehghpmnajpaaDoorKl
import Derived.Test.YtenehghpmnajpaaDoorKj
import Derived.Lib.LaidTab
/-! Lists of writes of clocks in memory; contract of the reference's SameWrites. -/
set_option linter.unusedVariables false
set_option linter.unusedSimpArgs false
namespace Go.Proofs.YtenehghpmnajpaaDoor
open Go.RowKit
open Classical

/-- A write of a clock. -/
def RWc (w : World) (b o : Nat) (p : Int × Int) : Prop := RI w b o 1 ∧ RI w b (o + 1) p.1 ∧ RI w b (o + 2) p.2
theorem RWc.mono : Mono RWc := fun _ _ _ _ _ hg ⟨h0, h1, h2⟩ => ⟨RI.mono _ _ _ _ _ hg h0, RI.mono _ _ _ _ _ hg h1, RI.mono _ _ _ _ _ hg h2⟩
def WideW (ps : List (Int × Int)) : Prop := ∀ p ∈ ps, Wide p.1 ∧ Wide p.2
theorem writes_at {w : World} {base : Nat} {v : Value} {ps : List (Int × Int)} (h : w.ownsRow base 35 3 v ps.length (ps.flatMap encW)) (hw : WideW ps) : ∃ a c, v = .slice a ps.length c ∧ ps.length ≤ c ∧ SlOf 3 RWc w a ps := by
  rcases Nat.eq_zero_or_pos ps.length with e | e
  · have : ps = [] := List.eq_nil_of_length_eq_zero e
    subst this
    obtain ⟨a, c, e⟩ := owns_slice h
    exact ⟨a, c, e, Nat.zero_le _, SlOf.nil _ _ _ _⟩
  · obtain ⟨g, cap, e1, h1, _, hc⟩ := owns_cell h e
    refine ⟨_, cap, e1, h1, fun k hk => ⟨g, 0, rfl, ?_⟩⟩
    have hf := fun j (hj : j < 3) => flat_at encW 3 (fun _ => rfl) ps k j hk hj
    have h2 : ∀ j, j < 3 → w.cell? ⟨g, k * 3 + j, none⟩ = (encW ps[k])[j]? := fun j hj => by
      rw [hc (k * 3 + j) (by omega), hf j hj]
    have hwk := hw _ (List.getElem_mem hk)
    rw [Nat.zero_add]
    exact ⟨⟨h2 0 (by omega), by unfold Wide; omega⟩, ⟨h2 1 (by omega), hwk.1⟩, ⟨h2 2 (by omega), hwk.2⟩⟩
theorem neq_write (a b c d e f : Int) (w : World) : (binOp .neq 35 (.agg #[.int .i64 a, .int .i64 b, .int .i64 c]) (.agg #[.int .i64 d, .int .i64 e, .int .i64 f])).run Tryd.prog w = .ok (.bool (!(a == d && b == e && c == f))) w := by
  have hu : Tryd.prog.underlying 35 = some (.struct (Tryd.prog.fieldsOf 35)) := by kernel_rfl
  have hs : Tryd.prog.stoodInHeld 35 = false := by kernel_rfl
  rw [run_neq_struct, run_equalIn_agg w 9999 _ _ _ hu hs]
  cases h1 : (a == d) <;> cases h2 : (b == e) <;> cases h3 : (c == f) <;> simp [go_sem, h1, h2, h3]
set_option maxRecDepth 100000 in
set_option maxHeartbeats 1000000 in
theorem sameWrites_any (xs ys : List (Int × Int)) (ax ay : Option Addr) (cx cy : Nat) (w : World) (hx : SlOf 3 RWc w ax xs) (hy : SlOf 3 RWc w ay ys) (fx : Fit xs.length) (fy : Fit ys.length) :
    Calls Tryd.prog 16 #[.slice ax xs.length cx, .slice ay ys.length cy] w fun e w' => e = .returned (.bool (decide (xs = ys))) ∧ Gr w w' := by
  unfold Fit at fx fy
  have HX := Lib.hid hx
  have HY := Lib.hid hy
  have NQ := neq_write
  clear hx hy
  by_cases hl : xs.length = ys.length
  · have hlb : ((xs.length : Int) != (ys.length : Int)) = false := by simp [hl]
    have HL := Lib.hid hl
    clear hl
    go_enter Tryd.func16, Tryd.ntmps16
    go_wp2
    go_loopw [13] (fun i wr => ∃ k : Nat, k ≤ xs.length ∧ i = .int .i64 k ∧ (∀ j (h : j < xs.length) (h' : j < ys.length), j < k → xs[j] = ys[j]) ∧ Gr w wr) (fun i _ => xs.length - (intOf i).toNat)
    case atStart => exact ⟨0, Nat.zero_le _, rfl, fun j _ _ h => absurd h (by omega), Gr.refl _⟩
    case round =>
      obtain ⟨k, hk, rfl, hall, hg⟩ := hrel
      have HA := Lib.hid hall
      have HG := Lib.hid hg
      by_cases hlt : k < xs.length
      · have hlt2 : k < ys.length := by have := HL.out; omega
        obtain ⟨b, o, rfl, ⟨p0, _⟩, ⟨p1, _⟩, ⟨p2, _⟩⟩ := HX.out.gr RWc.mono hg k hlt
        obtain ⟨b', o', rfl, ⟨q0, _⟩, ⟨q1, _⟩, ⟨q2, _⟩⟩ := HY.out.gr RWc.mono hg k hlt2
        have k2 : (k : Int) < xs.length := by omega
        have k3 : (k : Int) < ys.length := by omega
        clear hall hg
        by_cases he : xs[k] = ys[k]
        · have b1 : (xs[k].1 == ys[k].1) = true := by rw [he]; simp
          have b2 : (xs[k].2 == ys[k].2) = true := by rw [he]; simp
          have HE := Lib.hid he
          clear he
          go_wp2_with fail
          go_quiet (fail)
          go_wp2_with fail
          go_roundw
          case rel =>
            refine ⟨k + 1, by omega, by go_num, fun j h1 h2 hj => ?_, by first | exact HG.out | exact HG.out.drewN _⟩
            by_cases e : j = k
            · subst e; exact HE.out
            · exact HA.out j h1 h2 (by omega)
          case measure => simp [intOf]; omega
        · have HE := Lib.hid (show ¬ xs = ys from fun q => he (by subst q; rfl))
          have bb : (xs[k].1 == ys[k].1 && xs[k].2 == ys[k].2) = false := by
            cases h1 : (xs[k].1 == ys[k].1) <;> cases h2 : (xs[k].2 == ys[k].2) <;> simp_all
            exact he (Prod.ext h1 h2)
          clear he
          go_wp2_with fail
          go_quiet (fail)
          go_wp2_with fail
          go_ret
          exact ⟨ret_bool (decide_eq_false HE.out).symm, by first | exact HG.out | exact HG.out.drewN _⟩
      · have HE : Hid (xs = ys) := Lib.hid (eq_all HL.out fun j h1 h2 => HA.out j h1 h2 (by omega))
        go_wp2
        go_ret
        exact ⟨ret_bool (decide_eq_true HE.out).symm, HG.out⟩
  · have hlb : ((xs.length : Int) != (ys.length : Int)) = true := by simp; omega
    go_enter Tryd.func16, Tryd.ntmps16
    go_wp2
    go_ret
    exact ⟨ret_bool (decide_eq_false (fun q => hl (by rw [q]))).symm, Gr.refl _⟩
end Go.Proofs.YtenehghpmnajpaaDoor

/-! Plain: the example of the chapter. No program in sight. -/
set_option linter.unusedVariables false
set_option linter.unusedSectionVars false
set_option linter.unusedSimpArgs false
namespace Go.Proofs.YtenehghpmnajpaaDoor
open Classical

def threeL : List Clk := [⟨1, [], [24], 0, 0⟩, ⟨3, [0], [1, 4], 0, 0⟩, ⟨2, [1], [1, 4], 0, 0⟩]
def threeM : List Lmt := [⟨2, 0, 24⟩]
section
variable {cal : List Int → Bool} (h1 : cal [0, 0, 0] = true) (h2 : cal [0, 0, 1] = true) (h3 : cal [0, 1, 0] = false) (h4 : cal [0, 1, 1] = true)
include h1 h2 h3 h4
theorem three_nb0 : nbS threeL cal [0, 0, 0] = [(2, 1, [0, 0, 1])] := by
  simp [nbS, nbTo, nbRow, nbOne, threeL, List.range_succ, kOf, sOf, h1, h2, h3, h4]
theorem three_nb1 : nbS threeL cal [0, 0, 1] = [(1, 1, [0, 1, 1]), (2, 0, [0, 0, 0])] := by
  simp [nbS, nbTo, nbRow, nbOne, threeL, List.range_succ, kOf, sOf, h1, h2, h3, h4]
theorem three_nb3 : nbS threeL cal [0, 1, 1] = [(1, 0, [0, 0, 1])] := by
  simp [nbS, nbTo, nbRow, nbOne, threeL, List.range_succ, kOf, sOf, h1, h2, h3, h4]
theorem three_dist {D : List Int → Option Int} (h : DistOk threeL cal [0, 1, 1] D) : D [0, 1, 1] = some 0 ∧ D [0, 0, 1] = some 1 ∧ D [0, 0, 0] = some 2 := by
  have d0 := h.dist.zero
  have d1 : D [0, 0, 1] = some 1 := by
    obtain ⟨e, he, hle⟩ := h.dist.step [0, 1, 1] 0 (1, 0, [0, 0, 1]) d0 (by rw [three_nb3 h1 h2 h3 h4]; simp)
    have h0 := h.dist.nonneg _ _ he
    have hne : e ≠ 0 := fun q => by
      subst q
      have := h.dist.only _ he
      simp at this
    simp only at he
    rw [he]; congr 1; omega
  refine ⟨d0, d1, ?_⟩
  obtain ⟨e, he, hle⟩ := h.dist.step [0, 0, 1] 1 (2, 0, [0, 0, 0]) d1 (by rw [three_nb1 h1 h2 h3 h4]; simp)
  have h0 := h.dist.nonneg _ _ he
  simp only at he
  have hne : e ≠ 0 := fun q => by
    subst q
    have := h.dist.only _ he
    simp at this
  have hne1 : e ≠ 1 := fun q => by
    subst q
    obtain ⟨m, t, q1, q2, q3⟩ := h.dist.par _ _ he (by omega)
    have := h.dist.only m (by simpa using q1)
    subst this
    rw [three_nb3 h1 h2 h3 h4] at q2
    simp at q2
    subst q2
    simp at q3
  rw [he]; congr 1; omega
theorem three_plan {D : List Int → Option Int} (h : DistOk threeL cal [0, 1, 1] D) : planS threeL cal D [0, 0, 0] = [(2, 1), (1, 1)] := by
  obtain ⟨d0, d1, d2⟩ := three_dist h1 h2 h3 h4 h
  have z0 : dz D [0, 1, 1] = 0 := by simp [dz, d0]
  have z1 : dz D [0, 0, 1] = 1 := by simp [dz, d1]
  have z2 : dz D [0, 0, 0] = 2 := by simp [dz, d2]
  unfold planS
  rw [z2]
  show planB _ _ 2 _ = _
  simp [planB, three_nb0 h1 h2 h3 h4, three_nb1 h1 h2 h3 h4, z0, z1, z2]
end
theorem three_chk : cchk threeL = 0 := by
  refine cchk_ok ?_ ?_ (by decide) (by decide)
  · rintro (q | ⟨k, hk, q⟩)
    · simp [threeL] at q
    · have : k = 0 ∨ k = 1 ∨ k = 2 := by simp [threeL] at hk; omega
      rcases this with rfl | rfl | rfl <;> simp [threeL, BigC] at q
  · intro k hk
    refine ⟨hk, ?_⟩
    have : k = 0 ∨ k = 1 ∨ k = 2 := by simp [threeL] at hk; omega
    rcases this with rfl | rfl | rfl
    · refine ⟨fun j hj => by simp [threeL] at hj, .inl ⟨rfl, rfl, rfl, by simp [threeL]⟩, by simp [threeL, LimOk]⟩
    · refine ⟨fun j hj => ?_, .inr (.inl ⟨.inr rfl, rfl, by simp [threeL], ?_⟩), by simp [threeL, LimOk]⟩
      · have : j = 0 := by simp [threeL] at hj; omega
        subst this; simp [threeL]
      · intro j hj
        have : j = 0 ∨ j = 1 := by simp [threeL] at hj; omega
        rcases this with rfl | rfl <;> exact ⟨hj, by simp [threeL]⟩
    · refine ⟨fun j hj => ?_, .inr (.inl ⟨.inl rfl, rfl, by simp [threeL], ?_⟩), by simp [threeL, LimOk]⟩
      · have : j = 0 := by simp [threeL] at hj; omega
        subst this; simp [threeL]
      · intro j hj
        have : j = 0 ∨ j = 1 := by simp [threeL] at hj; omega
        rcases this with rfl | rfl <;> exact ⟨hj, by simp [threeL]⟩
theorem three_set {a b : Int} (ha : 0 ≤ a ∧ a ≤ 1) (hb : 0 ≤ b ∧ b ≤ 1) : SetOk threeL [0, a, b] := by
  refine ⟨rfl, fun i h1 h2 => ?_⟩
  have : i = 0 ∨ i = 1 ∨ i = 2 := by simp [threeL] at h1; omega
  rcases this with rfl | rfl | rfl <;> simp [threeL] <;> omega
theorem three_lims : threeM.length ≤ 32 ∧ ∀ j (h : j < threeM.length), LmtOk threeL threeM[j] := by
  refine ⟨by decide, fun j hj => ?_⟩
  have : j = 0 := by simp [threeM] at hj; omega
  subst this
  simp [threeM, threeL, LmtOk]
theorem tN_of {n d k : Int} (h : ¬ tmBig n d k) (ho : okFac n d k = true) : tN n d k = newN (n * (k / Int.gcd k d)) (d / Int.gcd k d) ∧ tD n d k = newD (n * (k / Int.gcd k d)) (d / Int.gcd k d) := by
  rw [tN, tD, if_pos ho, if_pos ho, tmN, tmD, if_neg h, if_neg h]; exact ⟨rfl, rfl⟩
theorem t_1 : tN 24 1 1 = 24 ∧ tD 24 1 1 = 1 := by
  have h := tN_of (n := 24) (d := 1) (k := 1) (by unfold tmBig; decide) (by decide)
  rw [h.1, h.2]; decide
theorem t_4 : tN 24 1 4 = 96 ∧ tD 24 1 4 = 1 := by
  have h := tN_of (n := 24) (d := 1) (k := 4) (by unfold tmBig; decide) (by decide)
  rw [h.1, h.2]; decide
theorem o_of (n k : Int) (n' d' : Int) (ho : okFac n 1 k = true) (hn : 0 ≤ n) (hk : 1 ≤ k) (h : newN n (1 * k) = n') (h' : newD n (1 * k) = d') : oN n 1 k = n' ∧ oD n 1 k = d' := by
  have hv := over_new n 1 k hn (by omega) hk
  rw [oN, oD, if_pos ho, if_pos ho, ← hv.2.1, ← hv.2.2]
  exact ⟨h, h'⟩
theorem o_24_1 : oN 24 1 1 = 24 ∧ oD 24 1 1 = 1 := o_of 24 1 24 1 (by decide) (by omega) (by omega) (by decide) (by decide)
theorem o_24_4 : oN 24 1 4 = 6 ∧ oD 24 1 4 = 1 := o_of 24 4 6 1 (by decide) (by omega) (by omega) (by decide) (by decide)
theorem o_96_1 : oN 96 1 1 = 96 ∧ oD 96 1 1 = 1 := o_of 96 1 96 1 (by decide) (by omega) (by omega) (by decide) (by decide)
theorem o_96_4 : oN 96 1 4 = 24 ∧ oD 96 1 4 = 1 := o_of 96 4 24 1 (by decide) (by omega) (by omega) (by decide) (by decide)
theorem rts_00 : rts threeL [0, 0, 0] = [some (24, 1), some (24, 1), some (24, 1)] := by
  simp [rts, ratesGo, threeL, stepR, chC, parC, scaleR, t_1.1, t_1.2, o_24_1.1, o_24_1.2]
theorem rts_01 : rts threeL [0, 0, 1] = [some (24, 1), some (24, 1), some (6, 1)] := by
  simp [rts, ratesGo, threeL, stepR, chC, parC, scaleR, t_1.1, t_1.2, o_24_4.1, o_24_4.2]
theorem rts_10 : rts threeL [0, 1, 0] = [some (24, 1), some (96, 1), some (96, 1)] := by
  simp [rts, ratesGo, threeL, stepR, chC, parC, scaleR, t_4.1, t_4.2, o_96_1.1, o_96_1.2]
theorem rts_11 : rts threeL [0, 1, 1] = [some (24, 1), some (96, 1), some (24, 1)] := by
  simp [rts, ratesGo, threeL, stepR, chC, parC, scaleR, t_4.1, t_4.2, o_96_4.1, o_96_4.2]
theorem own_three (R : List Rt) : ∀ i (h : i < threeL.length), ownOk (rtAt R i) threeL[i] = true := by
  intro i h
  have : i = 0 ∨ i = 1 ∨ i = 2 := by simp [threeL] at h; omega
  unfold ownOk
  rcases this with rfl | rfl | rfl <;> split <;> simp [threeL]
theorem cal_three (s : List Int) (b : Bool) (h : okIn (rtAt (rts threeL s) 2) 0 24 = b) : calS threeL threeM s = b := by
  unfold calS
  cases b with
  | true =>
    refine decide_eq_true ⟨own_three _, fun j hj => ?_⟩
    have : j = 0 := by simp [threeM] at hj; omega
    subst this
    exact h
  | false =>
    refine decide_eq_false (fun q => ?_)
    have := q.2 0 (by simp [threeM])
    have h' : okIn (rtAt (rts threeL s) 2) 0 24 = true := this
    rw [h] at h'; cases h'
theorem cal_00 : calS threeL threeM [0, 0, 0] = true := cal_three _ _ (by rw [rts_00]; decide)
theorem cal_01 : calS threeL threeM [0, 0, 1] = true := cal_three _ _ (by rw [rts_01]; decide)
theorem cal_10 : calS threeL threeM [0, 1, 0] = false := cal_three _ _ (by rw [rts_10]; decide)
theorem cal_11 : calS threeL threeM [0, 1, 1] = true := cal_three _ _ (by rw [rts_11]; decide)
end Go.Proofs.YtenehghpmnajpaaDoor

/-! Contracts of law18's three and awake. -/
set_option linter.unusedVariables false
set_option linter.unusedSimpArgs false
namespace Go.Proofs.YtenehghpmnajpaaDoor
open Go.RowKit
open Classical

set_option maxRecDepth 100000 in
set_option maxHeartbeats 1000000 in
theorem three_any (w : World) : Calls Tryd.prog 51 #[] w fun e w' => ∃ B, e = .returned (.slice (some ⟨B, 0, none⟩) 3 3) ∧ SlOf 5 RClk w' (some ⟨B, 0, none⟩) threeL ∧ Gr w w' := by
  go_enter Tryd.func51, Tryd.ntmps51
  go_wp2_with fail
  obtain ⟨w5, hw5⟩ : ∃ w5 : World, Hid (w5 = ((((w.alloc (.cells #[.int .i64 24] 3)).alloc (.cells #[.int .i64 0] 3)).alloc (.cells #[.int .i64 1, .int .i64 4] 3)).alloc (.cells #[.int .i64 1] 3)).alloc (.cells #[.int .i64 1, .int .i64 4] 3)) := ⟨_, Lib.hid rfl⟩
  rw [← hw5.out]
  have a0 : Row w5 w.heap.size 3 (nums [24]) := by
    rw [hw5.out]; exact ((((row_new' w #[.int .i64 24] 3 _ rfl).alloc _).alloc _).alloc _).alloc _
  have a1 : Row w5 (w.heap.size + 1) 3 (nums [0]) := by
    rw [hw5.out]; exact (((row_new' _ #[.int .i64 0] 3 _ (by simp)).alloc _).alloc _).alloc _
  have a2 : Row w5 (w.heap.size + 1 + 1) 3 (nums [1, 4]) := by
    rw [hw5.out]; exact ((row_new' _ #[.int .i64 1, .int .i64 4] 3 _ (by simp)).alloc _).alloc _
  have a3 : Row w5 (w.heap.size + 1 + 1 + 1) 3 (nums [1]) := by
    rw [hw5.out]; exact (row_new' _ #[.int .i64 1] 3 _ (by simp)).alloc _
  have a4 : Row w5 (w.heap.size + 1 + 1 + 1 + 1) 3 (nums [1, 4]) := by
    rw [hw5.out]; exact row_new' _ #[.int .i64 1, .int .i64 4] 3 _ (by simp)
  have z5 : w5.heap.size = w.heap.size + 1 + 1 + 1 + 1 + 1 := by rw [hw5.out]; simp
  have g5 : Gr w w5 := by rw [hw5.out]; exact (((((Gr.refl w).alloc _).alloc _).alloc _).alloc _).alloc _
  go_ret
  obtain ⟨arr, harr⟩ : ∃ arr, arr = #[Value.int .i64 1, .slice none 0 0, .slice (some ⟨w.heap.size, 0, none⟩) 1 1, .int .i64 0, .int .i64 0, .int .i64 3, .slice (some ⟨w.heap.size + 1, 0, none⟩) 1 1, .slice (some ⟨w.heap.size + 1 + 1, 0, none⟩) 2 2, .int .i64 0, .int .i64 0, .int .i64 2, .slice (some ⟨w.heap.size + 1 + 1 + 1, 0, none⟩) 1 1, .slice (some ⟨w.heap.size + 1 + 1 + 1 + 1, 0, none⟩) 2 2, .int .i64 0, .int .i64 0] := ⟨_, rfl⟩
  rw [← harr]
  have r := row_new' w5 arr 28 _ z5.symm
  have G := (Gr.refl w5).alloc (.cells arr 28)
  obtain ⟨w6, hw6⟩ : ∃ w6 : World, w6 = w5.alloc (.cells arr 28) := ⟨_, rfl⟩
  rw [← hw6] at r G ⊢
  have b0 := a0.gr G
  have b1 := a1.gr G
  have b2 := a2.gr G
  have b3 := a3.gr G
  have b4 := a4.gr G
  have wd : ∀ xs : List Int, (∀ x ∈ xs, 0 ≤ x ∧ x ≤ 100) → ∀ k (hk : k < xs.length), Wide xs[k] := fun xs h k hk => by
    have := h _ (List.getElem_mem hk); unfold Wide; omega
  have c := fun j (hj : j < 15) => r.cell j (by rw [harr]; exact hj)
  refine ⟨_, rfl, ?_, g5.trans G⟩
  subst harr
  intro k hk
  have : k = 0 ∨ k = 1 ∨ k = 2 := by simp [threeL] at hk; omega
  have wi : ∀ x : Int, 0 ≤ x → x ≤ 100 → Wide x := fun x h h' => by unfold Wide; omega
  rcases this with rfl | rfl | rfl
  · refine ⟨_, 0, rfl, ⟨c 0 (by omega), wi _ (by simp [threeL]) (by simp [threeL])⟩, ⟨none, 0, c 1 (by omega), by simp [threeL], by simp [threeL, Fit], SlOf.nil _ _ _ _⟩, ⟨_, 1, c 2 (by omega), by simp [threeL], by simp [threeL, Fit], b0.s.slI (wd _ (by simp))⟩, ⟨c 3 (by omega), wi _ (by simp [threeL]) (by simp [threeL])⟩, ⟨c 4 (by omega), wi _ (by simp [threeL]) (by simp [threeL])⟩⟩
  · refine ⟨_, 0, rfl, ⟨c 5 (by omega), wi _ (by simp [threeL]) (by simp [threeL])⟩, ⟨_, 1, c 6 (by omega), by simp [threeL], by simp [threeL, Fit], b1.s.slI (wd _ (by simp))⟩, ⟨_, 2, c 7 (by omega), by simp [threeL], by simp [threeL, Fit], b2.s.slI (wd _ (by simp))⟩, ⟨c 8 (by omega), wi _ (by simp [threeL]) (by simp [threeL])⟩, ⟨c 9 (by omega), wi _ (by simp [threeL]) (by simp [threeL])⟩⟩
  · refine ⟨_, 0, rfl, ⟨c 10 (by omega), wi _ (by simp [threeL]) (by simp [threeL])⟩, ⟨_, 1, c 11 (by omega), by simp [threeL], by simp [threeL, Fit], b3.s.slI (wd _ (by simp))⟩, ⟨_, 2, c 12 (by omega), by simp [threeL], by simp [threeL, Fit], b4.s.slI (wd _ (by simp))⟩, ⟨c 13 (by omega), wi _ (by simp [threeL]) (by simp [threeL])⟩, ⟨c 14 (by omega), wi _ (by simp [threeL]) (by simp [threeL])⟩⟩
theorem writes_row {w : World} {B : Nat} {ps : List (Int × Int)} (h : Row w B 35 (ps.flatMap encW)) (hw : WideW ps) : SlOf 3 RWc w (some ⟨B, 0, none⟩) ps := fun k hk => by
  have hf := fun j (hj : j < 3) => flat_at encW 3 (fun _ => rfl) ps k j hk hj
  have hl := encW_len ps
  have h2 : ∀ j, j < 3 → w.cell? ⟨B, k * 3 + j, none⟩ = (encW ps[k])[j]? := fun j hj => by
    rw [← hf j hj, h.cell (k * 3 + j) (by rw [hl]; omega)]
    rw [List.getElem?_eq_getElem (by rw [hl]; omega)]
  have hwk := hw _ (List.getElem_mem hk)
  refine ⟨B, 0, rfl, ?_⟩
  rw [Nat.zero_add]
  exact ⟨⟨h2 0 (by omega), by unfold Wide; omega⟩, ⟨h2 1 (by omega), hwk.1⟩, ⟨h2 2 (by omega), hwk.2⟩⟩
set_option maxRecDepth 100000 in
set_option maxHeartbeats 1000000 in
theorem awake_any (w : World) (hoff : OffV w) : Calls Tryd.prog 17 #[] w (Grows w (.bool true)) := by
  have HO := Lib.hid hoff
  clear hoff
  go_enter Tryd.func17, Tryd.ntmps17
  go_wp2_with fail
  refine (three_any w).mono ?_
  rintro e w1 ⟨B, rfl, hs, hg⟩
  have S1 := Lib.hid hs
  have G1 := Lib.hid hg
  clear hs hg
  go_wp2_with fail
  obtain ⟨W2, hW2⟩ : ∃ W2 : World, Hid (W2 = ((w1.alloc (.cells #[.int .i64 0, .int .i64 0, .int .i64 0] 3)).alloc (.cells #[.int .i64 0, .int .i64 1, .int .i64 1] 3)).alloc (.cells #[.int .i64 2, .int .i64 0, .int .i64 24] 53)) := ⟨_, Lib.hid rfl⟩
  rw [← hW2.out]
  have g2 : Gr w1 W2 := by rw [hW2.out]; exact (((Gr.refl _).alloc _).alloc _).alloc _
  have rf : Row W2 w1.heap.size 3 (nums [0, 0, 0]) := by rw [hW2.out]; exact ((row_new' w1 #[.int .i64 0, .int .i64 0, .int .i64 0] 3 _ rfl).alloc _).alloc _
  have rt : Row W2 (w1.heap.size + 1) 3 (nums [0, 1, 1]) := by rw [hW2.out]; exact (row_new' _ #[.int .i64 0, .int .i64 1, .int .i64 1] 3 _ (by simp)).alloc _
  have rm : Row W2 (w1.heap.size + 1 + 1) 53 [.int .i64 2, .int .i64 0, .int .i64 24] := by rw [hW2.out]; exact row_new' _ #[.int .i64 2, .int .i64 0, .int .i64 24] 53 _ (by simp)
  have sm : SlOf 3 RLmt W2 (some ⟨w1.heap.size + 1 + 1, 0, none⟩) threeM := fun k hk => by
    have : k = 0 := by simp [threeM] at hk; omega
    subst this
    exact ⟨_, 0, rfl, ⟨rm.cell 0 (by simp), by simp [threeM, Wide]⟩, ⟨rm.cell 1 (by simp), by simp [threeM, Wide]⟩, ⟨rm.cell 2 (by simp), by simp [threeM, Wide]⟩⟩
  have env : Env W2 threeL threeM (some ⟨B, 0, none⟩) (some ⟨w1.heap.size + 1 + 1, 0, none⟩) := ⟨clks_gr S1.out g2, sm, (HO.out.gr G1.out).gr g2, three_chk, three_lims⟩
  have s0 : SetOk threeL [0, 0, 0] := three_set (by omega) (by omega)
  have s1 : SetOk threeL [0, 1, 1] := three_set (by omega) (by omega)
  have PL := plan_any threeL threeM [0, 0, 0] [0, 1, 1] _ _ _ _ 3 1 3 3 W2 env s0 s1 (rf.s.slI (setOk_wide three_chk s0)) (rt.s.slI (setOk_wide three_chk s1))
  have PL' := Lib.hid PL
  have G2 := Lib.hid (G1.out.trans g2)
  clear PL env sm rm rt rf g2 hW2 s0 s1
  refine PL'.out.mono ?_
  rintro e w3 ⟨hg3, _, hr⟩
  obtain ⟨D, hD, _, hsome⟩ := hr (by rw [cal_00, cal_11]; rfl)
  have hdd := (three_dist cal_00 cal_01 cal_10 cal_11 hD).2.2
  obtain ⟨v, rfl, ho⟩ := hsome 2 hdd
  rw [three_plan cal_00 cal_01 cal_10 cal_11 hD] at ho
  have hww : WideW [((2 : Int), (1 : Int)), (1, 1)] := by intro p hp; simp at hp; rcases hp with rfl | rfl <;> simp [Wide]
  obtain ⟨a, c, rfl, _, sl⟩ := writes_at ho hww
  have SL := Lib.hid sl
  have G3 := Lib.hid (G2.out.trans hg3)
  have HW := Lib.hid hww
  clear sl ho hsome hr hdd hD hg3 PL' hww
  go_wp2_with fail
  have gw := (Gr.refl w3).alloc (.cells #[.int .i64 1, .int .i64 2, .int .i64 1, .int .i64 1, .int .i64 1, .int .i64 1] 35)
  have SW := sameWrites_any [((2 : Int), (1 : Int)), (1, 1)] [((2 : Int), (1 : Int)), (1, 1)] a (some ⟨w3.heap.size, 0, none⟩) c 2 _ (SL.out.gr RWc.mono gw) (writes_row (Row.new w3 #[.int .i64 1, .int .i64 2, .int .i64 1, .int .i64 1, .int .i64 1, .int .i64 1] 35) HW.out) (by unfold Fit; simp) (by unfold Fit; simp)
  rw [decide_eq_true rfl] at SW
  refine SW.mono ?_
  rintro e w5 ⟨rfl, hg5⟩
  have G5 := Lib.hid ((G3.out.trans gw).trans hg5)
  clear gw hg5 SW
  go_wp2_with fail
  go_ret
  exact ⟨rfl, G5.out⟩
end Go.Proofs.YtenehghpmnajpaaDoor

/-! What the listed variable gives: the rate of a clock that does not run. -/
set_option linter.unusedVariables false
set_option linter.unusedSimpArgs false
namespace Go.Proofs.YtenehghpmnajpaaDoor
open Go.RowKit

theorem two_of {α β : Type} {xs : List α} {f : α → β} {a b : β} (h : xs.map f = [a, b]) : ∃ y0 y1, xs = [y0, y1] ∧ f y0 = a ∧ f y1 = b := by
  rcases xs with _ | ⟨y0, _ | ⟨y1, _ | ⟨y2, xs⟩⟩⟩ <;> simp at h
  exact ⟨y0, y1, rfl, h.1, h.2⟩
theorem two_len {α : Type} {xs : List α} (h : xs.length = 2) : ∃ y0 y1, xs = [y0, y1] := by
  rcases xs with _ | ⟨y0, _ | ⟨y1, _ | ⟨y2, xs⟩⟩⟩ <;> simp at h
  exact ⟨y0, y1, rfl⟩
theorem off_of_laid {W : World} {rest : List (String × DataW Unit)} (h : laidMet Tryd.prog (("bringup/clock.off", .agg [.lit (.int .i64 0), .lit (.int .i64 1)]) :: rest) W) : OffV W := by
  obtain ⟨ps, ⟨g', t', cs, fuel, p, q, hg', ht', hvar, hd, _, _⟩, _⟩ := h
  have hg : Tryd.prog.globalNamed "bringup/clock.off" = some 0 := by kernel_rfl
  have hty : (Tryd.prog.globals[0]?).map (·.type) = some 56 := by kernel_rfl
  obtain rfl := Option.some.inj (hg.symm.trans hg')
  obtain rfl := Option.some.inj (hty.symm.trans ht')
  have hu : Tryd.prog.underlying 56 = some (.struct (Tryd.prog.fieldsOf 56)) := by kernel_rfl
  have f0 : ((Tryd.prog.fieldsOf 56)[0]?).map (fun f => (f.type, f.offset)) = some (3, 0) := by kernel_rfl
  have f1 : ((Tryd.prog.fieldsOf 56)[1]?).map (fun f => (f.type, f.offset)) = some (3, 1) := by kernel_rfl
  have hc : Tryd.prog.cellsOf 56 = 2 := by kernel_rfl
  have hci : Tryd.prog.cellsOf 3 = 1 := by kernel_rfl
  obtain ⟨xs, n, _, hx, hl, _, hf⟩ := DataW.trod_struct hu hd
  have hxs : xs.map (·.1) = [.lit (.int .i64 0), .lit (.int .i64 1)] := by
    have := congrArg Prod.fst hx
    exact (DataW.agg.inj this).symm
  obtain ⟨y0, y1, rfl, hx0, hx1⟩ := two_of hxs
  rw [hc] at hl
  obtain ⟨c0, c1, hcs⟩ := two_len hl
  have key : ∀ (i : Nat), ((Tryd.prog.fieldsOf 56)[i]?).map (fun f => (f.type, f.offset)) = some (3, i) → ∀ y, [y0, y1][i]? = some y → ∃ m, (cs.toList.drop i).take 1 = [.int .i64 m] ∧ y.1 = .lit (.int .i64 m) := by
    intro i hi y hy
    cases e : (Tryd.prog.fieldsOf 56)[i]? with
    | none => rw [e] at hi; cases hi
    | some f =>
      rw [e] at hi
      simp only [Option.map_some, Option.some.injEq, Prod.mk.injEq] at hi
      have := hf i f e
      rw [hi.1, hi.2, hci, hy] at this
      obtain ⟨m, q1, q2, _⟩ := DataW.trod_int Tryd.underlying3 this
      exact ⟨m, q1, by rw [q2]⟩
  obtain ⟨m0, a0, b0⟩ := key 0 f0 y0 rfl
  obtain ⟨m1, a1, b1⟩ := key 1 f1 y1 rfl
  rw [hcs] at a0 a1
  simp at a0 a1
  rw [hx0] at b0
  rw [hx1] at b1
  simp at b0 b1
  subst b0 b1 a0 a1
  have g0 := World.var?_cell hg hvar 0
  have g1 := World.var?_cell hg hvar 1
  have hz : ∀ i : Nat, cs[i]? = cs.toList[i]? := fun i => by simp
  rw [hz, hcs] at g0 g1
  exact ⟨by simpa using g0, by simpa using g1⟩
end Go.Proofs.YtenehghpmnajpaaDoor
