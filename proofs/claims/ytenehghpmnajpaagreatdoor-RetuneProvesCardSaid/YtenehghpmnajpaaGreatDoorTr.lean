/- Clocks in rows of the call's own whose limits are struck. What the listed variable gives: the rate of a clock that does not run. (several texts in one, by wip/tools/merge.py) -/
import Derived.Test.YtenehghpmnajpaaGreatDoorKg
import Derived.Test.YtenehghpmnajpaaGreatDoorKl
import Derived.Test.YtenehghpmnajpaaGreatDoorKj
import Derived.Lib.LaidTab
import Derived.Test.YtenehghpmnajpaaGreatDoorKd
/-! Clocks in rows of the call's own whose limits are struck. -/
set_option linter.unusedVariables false
set_option linter.unusedSimpArgs false
namespace Go.Proofs.YtenehghpmnajpaaGreatDoor
open Go.RowKit
open Classical

def zt (t : CT) : CT := { t with c := zc t.c }
/-- The first k clocks have no limits any more. -/
def zts (ts : List CT) (k : Nat) : List CT := (ts.take k).map zt ++ ts.drop k
theorem zts_len (ts : List CT) (k : Nat) : (zts ts k).length = ts.length := by simp [zts]; omega
theorem zts_zero (ts : List CT) : zts ts 0 = ts := by simp [zts]
theorem zts_all (ts : List CT) : clks (zts ts ts.length) = (clks ts).map zc := by
  simp [zts, clks, zt, Function.comp_def]
theorem zts_at {ts : List CT} {k : Nat} (h : k < ts.length) : (zts ts k)[k]'(by rw [zts_len]; exact h) = ts[k] := by
  simp only [zts]
  rw [List.getElem_append_right (by simp; omega)]
  simp [Nat.min_eq_left (Nat.le_of_lt h)]
theorem zts_step {ts : List CT} {k : Nat} (h : k < ts.length) : (zts ts k).set k (zt ts[k]) = zts ts (k + 1) := by
  simp only [zts]
  have hd : ts.drop k = ts[k] :: ts.drop (k + 1) := List.drop_eq_getElem_cons h
  rw [List.set_append_right _ _ (by simp; omega), take_snoc_get ts k h, List.map_append, List.append_assoc, hd]
  simp [Nat.min_eq_left (Nat.le_of_lt h)]
  rw [hd]; rfl
theorem encC_set (ts : List CT) : ∀ (k : Nat) (h : k < ts.length), ((ts.flatMap encC).set (k * 5 + 3) (.int .i64 0)).set (k * 5 + 4) (.int .i64 0) = (ts.set k (zt ts[k])).flatMap encC := by
  induction ts with
  | nil => intro k h; simp at h
  | cons t ts ih =>
    intro k h
    cases k with
    | zero => simp [encC, zt, zc]
    | succ k =>
      have := ih k (by simpa using h)
      rw [show (k + 1) * 5 + 3 = (encC t).length + (k * 5 + 3) by rw [encC_len]; omega, show (k + 1) * 5 + 4 = (encC t).length + (k * 5 + 4) by rw [encC_len]; omega]
      rw [List.flatMap_cons, List.set_append_right _ _ (by omega), List.set_append_right _ _ (by omega), List.set_cons_succ, List.flatMap_cons, List.getElem_cons_succ, ← this]
      simp
theorem chRow_zt {base : Nat} {w : World} {t : CT} (h : ChRow base w t) : ChRow base w (zt t) := by
  obtain ⟨h1, h2, h3, h4, h5, h6, h7, h8, h9, h10⟩ := h
  exact ⟨h1, h2, h3, h4, h5, h6, h7, by simp [zt, zc, Wide], by simp [zt, zc, Wide], h10⟩
theorem chRows_zts {base : Nat} {w : World} {ts : List CT} (h : ChRows base w ts) (k : Nat) : ChRows base w (zts ts k) := by
  intro t ht
  rcases List.mem_append.1 ht with ht | ht
  · obtain ⟨u, hu, rfl⟩ := List.mem_map.1 ht
    exact chRow_zt (h u (List.mem_of_mem_take hu))
  · exact h t (List.mem_of_mem_drop ht)
/-- A cell of an own row is written. -/
theorem owns_put {w : World} {base e size n g cap j : Nat} {xs : List Value} (h : w.ownsRow base e size (.slice (some ⟨g, 0, none⟩) n cap) n xs) (hj : j < n * size) (v : Value) : (w.setCell ⟨g, j, none⟩ v).ownsRow base e size (.slice (some ⟨g, 0, none⟩) n cap) n (xs.set j v) := by
  obtain ⟨h0, ⟨e1, _⟩ | ⟨g', cap', cur, e1, hb, hg, hn, hm, hs, ht⟩⟩ := h
  · cases e1
  · simp only [Value.slice.injEq, Option.some.injEq, Addr.mk.injEq, and_true, true_and] at e1
    obtain ⟨rfl, rfl⟩ := e1
    have hr : Row w g e cur.toList := hg
    have hr2 := hr.set j v
    refine ⟨by simpa using h0, .inr ⟨g, cap, (cur.toList.set j v).toArray, rfl, hb, hr2, hn, hm, by simpa using hs, ?_⟩⟩
    rw [← ht]
    simp only []
    rw [List.take_set]
theorem owns_ne_row {w : World} {base e size n g cap : Nat} {xs : List Value} (h : w.ownsRow base e size (.slice (some ⟨g, 0, none⟩) n cap) n xs) {B T : Nat} {vs : List Value} (hr : RowS w B T vs) (hT : T ≠ e) : B ≠ g := fun q => by
  have := owns_apart h hr hT
  exact this (by rw [q]; rfl)
theorem owns_free {w : World} {base e size n g cap : Nat} {xs : List Value} (h : w.ownsRow base e size (.slice (some ⟨g, 0, none⟩) n cap) n xs) (j : Nat) : w.frozen? ⟨g, j, none⟩ = false ∧ Has w g := by
  obtain ⟨h0, ⟨e1, _⟩ | ⟨g', cap', cur, e1, hb, hg, _⟩⟩ := h
  · cases e1
  · simp only [Value.slice.injEq, Option.some.injEq, Addr.mk.injEq, and_true, true_and] at e1
    obtain ⟨rfl, rfl⟩ := e1
    have hr : Row w g e cur.toList := hg
    exact ⟨hr.free j, hr.has⟩
theorem Mv.gr_low {w w1 w2 : World} {b len : Nat} (h : Gr w w1) (hb : w.heap.size ≤ b) (m : Mv b len w1 w2) : Gr w w2 := by
  obtain ⟨p, h0, h1, hg⟩ := m
  exact (h.setc hb).trans hg
theorem owns_slI {w : World} {base n : Nat} {v : Value} {xs : List Int} (h : w.ownsRow base 3 1 v n (nums xs)) (hw : ∀ k (hk : k < xs.length), Wide xs[k]) : ∃ a c, v = .slice a n c ∧ SlOf 1 RI w a xs := by
  obtain ⟨a, c, e, _, ho⟩ := owns_own1 h
  exact ⟨a, c, e, ho.slI hw⟩
end Go.Proofs.YtenehghpmnajpaaGreatDoor

/-! What the listed variable gives: the rate of a clock that does not run. -/
set_option linter.unusedVariables false
set_option linter.unusedSimpArgs false
namespace Go.Proofs.YtenehghpmnajpaaGreatDoor
open Go.RowKit

theorem two_of {α β : Type} {xs : List α} {f : α → β} {a b : β} (h : xs.map f = [a, b]) : ∃ y0 y1, xs = [y0, y1] ∧ f y0 = a ∧ f y1 = b := by
  rcases xs with _ | ⟨y0, _ | ⟨y1, _ | ⟨y2, xs⟩⟩⟩ <;> simp at h
  exact ⟨y0, y1, rfl, h.1, h.2⟩
theorem two_len {α : Type} {xs : List α} (h : xs.length = 2) : ∃ y0 y1, xs = [y0, y1] := by
  rcases xs with _ | ⟨y0, _ | ⟨y1, _ | ⟨y2, xs⟩⟩⟩ <;> simp at h
  exact ⟨y0, y1, rfl⟩
theorem off_of_laid {W : World} {rest : List (String × DataW Unit)} (h : laidMet Tryz.prog (("bringup/clock.off", .agg [.lit (.int .i64 0), .lit (.int .i64 1)]) :: rest) W) : OffV W := by
  obtain ⟨ps, ⟨g', t', cs, fuel, p, q, hg', ht', hvar, hd, _, _⟩, _⟩ := h
  have hg : Tryz.prog.globalNamed "bringup/clock.off" = some 0 := by kernel_rfl
  have hty : (Tryz.prog.globals[0]?).map (·.type) = some 93 := by kernel_rfl
  obtain rfl := Option.some.inj (hg.symm.trans hg')
  obtain rfl := Option.some.inj (hty.symm.trans ht')
  have hu : Tryz.prog.underlying 93 = some (.struct (Tryz.prog.fieldsOf 93)) := by kernel_rfl
  have f0 : ((Tryz.prog.fieldsOf 93)[0]?).map (fun f => (f.type, f.offset)) = some (3, 0) := by kernel_rfl
  have f1 : ((Tryz.prog.fieldsOf 93)[1]?).map (fun f => (f.type, f.offset)) = some (3, 1) := by kernel_rfl
  have hc : Tryz.prog.cellsOf 93 = 2 := by kernel_rfl
  have hci : Tryz.prog.cellsOf 3 = 1 := by kernel_rfl
  obtain ⟨xs, n, _, hx, hl, _, hf⟩ := DataW.trod_struct hu hd
  have hxs : xs.map (·.1) = [.lit (.int .i64 0), .lit (.int .i64 1)] := by
    have := congrArg Prod.fst hx
    exact (DataW.agg.inj this).symm
  obtain ⟨y0, y1, rfl, hx0, hx1⟩ := two_of hxs
  rw [hc] at hl
  obtain ⟨c0, c1, hcs⟩ := two_len hl
  have key : ∀ (i : Nat), ((Tryz.prog.fieldsOf 93)[i]?).map (fun f => (f.type, f.offset)) = some (3, i) → ∀ y, [y0, y1][i]? = some y → ∃ m, (cs.toList.drop i).take 1 = [.int .i64 m] ∧ y.1 = .lit (.int .i64 m) := by
    intro i hi y hy
    cases e : (Tryz.prog.fieldsOf 93)[i]? with
    | none => rw [e] at hi; cases hi
    | some f =>
      rw [e] at hi
      simp only [Option.map_some, Option.some.injEq, Prod.mk.injEq] at hi
      have := hf i f e
      rw [hi.1, hi.2, hci, hy] at this
      obtain ⟨m, q1, q2, _⟩ := DataW.trod_int Tryz.underlying3 this
      exact ⟨m, q1, by rw [q2]⟩
  obtain ⟨m0, a0, b0⟩ := key 0 f0 y0 rfl
  obtain ⟨m1, a1, b1⟩ := key 1 f1 y1 rfl
  rw [hcs] at a0 a1
  simp at a0 a1
  rw [hx0] at b0
  rw [hx1] at b1
  simp at b0 b1
  subst b0 b1 a0 a1
  have g0 := World.var?_cell hg hvar 0
  have g1 := World.var?_cell hg hvar 1
  have hz : ∀ i : Nat, cs[i]? = cs.toList[i]? := fun i => by simp
  rw [hz, hcs] at g0 g1
  exact ⟨by simpa using g0, by simpa using g1⟩
end Go.Proofs.YtenehghpmnajpaaGreatDoor

/-! Plain: the example of the chapter. No program in sight. -/
set_option linter.unusedVariables false
set_option linter.unusedSectionVars false
set_option linter.unusedSimpArgs false
namespace Go.Proofs.YtenehghpmnajpaaGreatDoor
open Classical

def threeL : List Clk := [⟨1, [], [24], 0, 0⟩, ⟨3, [0], [1, 4], 0, 0⟩, ⟨2, [1], [1, 4], 0, 0⟩]
def threeM : List Lmt := [⟨2, 0, 24⟩]
section
variable {cal : List Int → Bool} (h1 : cal [0, 0, 0] = true) (h2 : cal [0, 0, 1] = true) (h3 : cal [0, 1, 0] = false) (h4 : cal [0, 1, 1] = true)
include h1 h2 h3 h4
theorem three_nb0 : nbS threeL cal [0, 0, 0] = [(2, 1, [0, 0, 1])] := by
  simp [nbS, nbTo, nbRow, nbOne, threeL, List.range_succ, kOf, sOf, h1, h2, h3, h4]
theorem three_nb1 : nbS threeL cal [0, 0, 1] = [(1, 1, [0, 1, 1]), (2, 0, [0, 0, 0])] := by
  simp [nbS, nbTo, nbRow, nbOne, threeL, List.range_succ, kOf, sOf, h1, h2, h3, h4]
theorem three_nb3 : nbS threeL cal [0, 1, 1] = [(1, 0, [0, 0, 1])] := by
  simp [nbS, nbTo, nbRow, nbOne, threeL, List.range_succ, kOf, sOf, h1, h2, h3, h4]
theorem three_dist {D : List Int → Option Int} (h : DistOk threeL cal [0, 1, 1] D) : D [0, 1, 1] = some 0 ∧ D [0, 0, 1] = some 1 ∧ D [0, 0, 0] = some 2 := by
  have d0 := h.dist.zero
  have d1 : D [0, 0, 1] = some 1 := by
    obtain ⟨e, he, hle⟩ := h.dist.step [0, 1, 1] 0 (1, 0, [0, 0, 1]) d0 (by rw [three_nb3 h1 h2 h3 h4]; simp)
    have h0 := h.dist.nonneg _ _ he
    have hne : e ≠ 0 := fun q => by
      subst q
      have := h.dist.only _ he
      simp at this
    simp only at he
    rw [he]; congr 1; omega
  refine ⟨d0, d1, ?_⟩
  obtain ⟨e, he, hle⟩ := h.dist.step [0, 0, 1] 1 (2, 0, [0, 0, 0]) d1 (by rw [three_nb1 h1 h2 h3 h4]; simp)
  have h0 := h.dist.nonneg _ _ he
  simp only at he
  have hne : e ≠ 0 := fun q => by
    subst q
    have := h.dist.only _ he
    simp at this
  have hne1 : e ≠ 1 := fun q => by
    subst q
    obtain ⟨m, t, q1, q2, q3⟩ := h.dist.par _ _ he (by omega)
    have := h.dist.only m (by simpa using q1)
    subst this
    rw [three_nb3 h1 h2 h3 h4] at q2
    simp at q2
    subst q2
    simp at q3
  rw [he]; congr 1; omega
theorem three_plan {D : List Int → Option Int} (h : DistOk threeL cal [0, 1, 1] D) : planS threeL cal D [0, 0, 0] = [(2, 1), (1, 1)] := by
  obtain ⟨d0, d1, d2⟩ := three_dist h1 h2 h3 h4 h
  have z0 : dz D [0, 1, 1] = 0 := by simp [dz, d0]
  have z1 : dz D [0, 0, 1] = 1 := by simp [dz, d1]
  have z2 : dz D [0, 0, 0] = 2 := by simp [dz, d2]
  unfold planS
  rw [z2]
  show planB _ _ 2 _ = _
  simp [planB, three_nb0 h1 h2 h3 h4, three_nb1 h1 h2 h3 h4, z0, z1, z2]
end
theorem three_chk : cchk threeL = 0 := by
  refine cchk_ok ?_ ?_ (by decide) (by decide)
  · rintro (q | ⟨k, hk, q⟩)
    · simp [threeL] at q
    · have : k = 0 ∨ k = 1 ∨ k = 2 := by simp [threeL] at hk; omega
      rcases this with rfl | rfl | rfl <;> simp [threeL, BigC] at q
  · intro k hk
    refine ⟨hk, ?_⟩
    have : k = 0 ∨ k = 1 ∨ k = 2 := by simp [threeL] at hk; omega
    rcases this with rfl | rfl | rfl
    · refine ⟨fun j hj => by simp [threeL] at hj, .inl ⟨rfl, rfl, rfl, by simp [threeL]⟩, by simp [threeL, LimOk]⟩
    · refine ⟨fun j hj => ?_, .inr (.inl ⟨.inr rfl, rfl, by simp [threeL], ?_⟩), by simp [threeL, LimOk]⟩
      · have : j = 0 := by simp [threeL] at hj; omega
        subst this; simp [threeL]
      · intro j hj
        have : j = 0 ∨ j = 1 := by simp [threeL] at hj; omega
        rcases this with rfl | rfl <;> exact ⟨hj, by simp [threeL]⟩
    · refine ⟨fun j hj => ?_, .inr (.inl ⟨.inl rfl, rfl, by simp [threeL], ?_⟩), by simp [threeL, LimOk]⟩
      · have : j = 0 := by simp [threeL] at hj; omega
        subst this; simp [threeL]
      · intro j hj
        have : j = 0 ∨ j = 1 := by simp [threeL] at hj; omega
        rcases this with rfl | rfl <;> exact ⟨hj, by simp [threeL]⟩
theorem three_set {a b : Int} (ha : 0 ≤ a ∧ a ≤ 1) (hb : 0 ≤ b ∧ b ≤ 1) : SetOk threeL [0, a, b] := by
  refine ⟨rfl, fun i h1 h2 => ?_⟩
  have : i = 0 ∨ i = 1 ∨ i = 2 := by simp [threeL] at h1; omega
  rcases this with rfl | rfl | rfl <;> simp [threeL] <;> omega
theorem three_lims : threeM.length ≤ 32 ∧ ∀ j (h : j < threeM.length), LmtOk threeL threeM[j] := by
  refine ⟨by decide, fun j hj => ?_⟩
  have : j = 0 := by simp [threeM] at hj; omega
  subst this
  simp [threeM, threeL, LmtOk]
theorem tN_of {n d k : Int} (h : ¬ tmBig n d k) (ho : okFac n d k = true) : tN n d k = newN (n * (k / Int.gcd k d)) (d / Int.gcd k d) ∧ tD n d k = newD (n * (k / Int.gcd k d)) (d / Int.gcd k d) := by
  rw [tN, tD, if_pos ho, if_pos ho, tmN, tmD, if_neg h, if_neg h]; exact ⟨rfl, rfl⟩
theorem t_1 : tN 24 1 1 = 24 ∧ tD 24 1 1 = 1 := by
  have h := tN_of (n := 24) (d := 1) (k := 1) (by unfold tmBig; decide) (by decide)
  rw [h.1, h.2]; decide
theorem t_4 : tN 24 1 4 = 96 ∧ tD 24 1 4 = 1 := by
  have h := tN_of (n := 24) (d := 1) (k := 4) (by unfold tmBig; decide) (by decide)
  rw [h.1, h.2]; decide
theorem o_of (n k : Int) (n' d' : Int) (ho : okFac n 1 k = true) (hn : 0 ≤ n) (hk : 1 ≤ k) (h : newN n (1 * k) = n') (h' : newD n (1 * k) = d') : oN n 1 k = n' ∧ oD n 1 k = d' := by
  have hv := over_new n 1 k hn (by omega) hk
  rw [oN, oD, if_pos ho, if_pos ho, ← hv.2.1, ← hv.2.2]
  exact ⟨h, h'⟩
theorem o_24_1 : oN 24 1 1 = 24 ∧ oD 24 1 1 = 1 := o_of 24 1 24 1 (by decide) (by omega) (by omega) (by decide) (by decide)
theorem o_24_4 : oN 24 1 4 = 6 ∧ oD 24 1 4 = 1 := o_of 24 4 6 1 (by decide) (by omega) (by omega) (by decide) (by decide)
theorem o_96_1 : oN 96 1 1 = 96 ∧ oD 96 1 1 = 1 := o_of 96 1 96 1 (by decide) (by omega) (by omega) (by decide) (by decide)
theorem o_96_4 : oN 96 1 4 = 24 ∧ oD 96 1 4 = 1 := o_of 96 4 24 1 (by decide) (by omega) (by omega) (by decide) (by decide)
theorem rts_00 : rts threeL [0, 0, 0] = [some (24, 1), some (24, 1), some (24, 1)] := by
  simp [rts, ratesGo, threeL, stepR, chC, parC, scaleR, t_1.1, t_1.2, o_24_1.1, o_24_1.2]
theorem rts_01 : rts threeL [0, 0, 1] = [some (24, 1), some (24, 1), some (6, 1)] := by
  simp [rts, ratesGo, threeL, stepR, chC, parC, scaleR, t_1.1, t_1.2, o_24_4.1, o_24_4.2]
theorem rts_10 : rts threeL [0, 1, 0] = [some (24, 1), some (96, 1), some (96, 1)] := by
  simp [rts, ratesGo, threeL, stepR, chC, parC, scaleR, t_4.1, t_4.2, o_96_1.1, o_96_1.2]
theorem rts_11 : rts threeL [0, 1, 1] = [some (24, 1), some (96, 1), some (24, 1)] := by
  simp [rts, ratesGo, threeL, stepR, chC, parC, scaleR, t_4.1, t_4.2, o_96_4.1, o_96_4.2]
theorem own_three (R : List Rt) : ∀ i (h : i < threeL.length), ownOk (rtAt R i) threeL[i] = true := by
  intro i h
  have : i = 0 ∨ i = 1 ∨ i = 2 := by simp [threeL] at h; omega
  unfold ownOk
  rcases this with rfl | rfl | rfl <;> split <;> simp [threeL]
theorem cal_three (s : List Int) (b : Bool) (h : okIn (rtAt (rts threeL s) 2) 0 24 = b) : calS threeL threeM s = b := by
  unfold calS
  cases b with
  | true =>
    refine decide_eq_true ⟨own_three _, fun j hj => ?_⟩
    have : j = 0 := by simp [threeM] at hj; omega
    subst this
    exact h
  | false =>
    refine decide_eq_false (fun q => ?_)
    have := q.2 0 (by simp [threeM])
    have h' : okIn (rtAt (rts threeL s) 2) 0 24 = true := this
    rw [h] at h'; cases h'
theorem cal_00 : calS threeL threeM [0, 0, 0] = true := cal_three _ _ (by rw [rts_00]; decide)
theorem cal_01 : calS threeL threeM [0, 0, 1] = true := cal_three _ _ (by rw [rts_01]; decide)
theorem cal_10 : calS threeL threeM [0, 1, 0] = false := cal_three _ _ (by rw [rts_10]; decide)
theorem cal_11 : calS threeL threeM [0, 1, 1] = true := cal_three _ _ (by rw [rts_11]; decide)
end Go.Proofs.YtenehghpmnajpaaGreatDoor

/-! A new row, its block named. -/
set_option linter.unusedVariables false
set_option linter.unusedSimpArgs false
namespace Go.Proofs.YtenehghpmnajpaaGreatDoor
open Go.RowKit

theorem row_new' (w : World) (arr : Array Value) (T B : Nat) (hB : B = w.heap.size) : Row (w.alloc (.cells arr T)) B T arr.toList := by subst hB; exact Row.new w arr T
end Go.Proofs.YtenehghpmnajpaaGreatDoor
