/- ramp.join. -/
import Derived.Test.YtoenkcojfogmmaaRmpB
set_option linter.unusedVariables false
set_option linter.unusedSimpArgs false
namespace Go.Proofs.Ytoenkcojfogmmaa
open Go.RowKit
open Classical

def lvAt (r : Rls) (k : Nat) : Int := r.level.getD k 0
theorem lvAt_eq {r : Rls} {k : Nat} (h : k < r.level.length) : lvAt r k = r.level[k] := by simp [lvAt, h]
/-- The level of the join at k. -/
def jlv (a b : Rls) (k : Nat) : Int := if onAt a k = true then (if onAt b k = true then (if lvAt a k < lvAt b k then lvAt b k else lvAt a k) else lvAt a k) else lvAt b k
def joinR (a b : Rls) : Rls := ⟨(List.range b.on.length).map fun k => onAt a k || onAt b k, (List.range b.level.length).map fun k => jlv a b k⟩
theorem joinR_on_len (a b : Rls) : (joinR a b).on.length = b.on.length := by simp [joinR]
theorem joinR_lv_len (a b : Rls) : (joinR a b).level.length = b.level.length := by simp [joinR]
theorem joinR_on (a b : Rls) (k : Nat) (h : k < b.on.length) : onAt (joinR a b) k = (onAt a k || onAt b k) := by simp [onAt, joinR, h]
theorem joinR_lv (a b : Rls) (k : Nat) (h : k < b.level.length) : lvAt (joinR a b) k = jlv a b k := by simp [lvAt, joinR, h]
/-- Behind the rounds of the supplies below k. -/
def JInv (a b : Rls) (k : Nat) (uo : List Bool) (ul : List Int) : Prop :=
  uo.length = b.on.length ∧ ul.length = b.level.length ∧ (∀ j, j < b.on.length → uo.getD j false = if j < k then (onAt a j || onAt b j) else onAt b j) ∧ ∀ j, j < b.level.length → ul.getD j 0 = if j < k then jlv a b j else lvAt b j
theorem JInv.start (a b : Rls) : JInv a b 0 b.on b.level := ⟨rfl, rfl, fun j _ => by simp [onAt], fun j _ => by simp [lvAt]⟩
theorem JInv.done {a b : Rls} {k : Nat} {uo : List Bool} {ul : List Int} (h : JInv a b k uo ul) (h1 : b.on.length ≤ k) (h2 : b.level.length ≤ k) : uo = (joinR a b).on ∧ ul = (joinR a b).level := by
  obtain ⟨e1, e2, e3, e4⟩ := h
  constructor
  · refine List.ext_getElem (by rw [e1, joinR_on_len]) fun j q1 q2 => ?_
    have := e3 j (by omega)
    rw [if_pos (by omega), List.getD_eq_getElem?_getD, List.getElem?_eq_getElem q1, Option.getD_some] at this
    rw [this]; simp [joinR]
  · refine List.ext_getElem (by rw [e2, joinR_lv_len]) fun j q1 q2 => ?_
    have := e4 j (by omega)
    rw [if_pos (by omega), List.getD_eq_getElem?_getD, List.getElem?_eq_getElem q1, Option.getD_some] at this
    rw [this]; simp [joinR]
theorem getD_set {α : Type} (vs : List α) (k j : Nat) (x z : α) (hk : k < vs.length) : (vs.set k x).getD j z = if j = k then x else vs.getD j z := by
  by_cases e : j = k
  · subst e; simp [List.getD_eq_getElem?_getD, hk]
  · rw [if_neg e, List.getD_eq_getElem?_getD, List.getElem?_set_ne (Ne.symm e), ← List.getD_eq_getElem?_getD]
theorem JInv.step {a b : Rls} {k : Nat} {uo : List Bool} {ul : List Int} (h : JInv a b k uo ul) (h1 : k < b.on.length) (h2 : k < b.level.length) : JInv a b (k + 1) (uo.set k (onAt a k || onAt b k)) (ul.set k (jlv a b k)) := by
  obtain ⟨e1, e2, e3, e4⟩ := h
  refine ⟨by simpa using e1, by simpa using e2, fun j hj => ?_, fun j hj => ?_⟩
  · rw [getD_set _ _ _ _ _ (by omega)]
    by_cases e : j = k
    · subst e; simp
    · rw [if_neg e, e3 j hj]
      by_cases q : j < k
      · rw [if_pos q, if_pos (by omega)]
      · rw [if_neg q, if_neg (by omega)]
  · rw [getD_set _ _ _ _ _ (by omega)]
    by_cases e : j = k
    · subst e; simp
    · rw [if_neg e, e4 j hj]
      by_cases q : j < k
      · rw [if_pos q, if_pos (by omega)]
      · rw [if_neg q, if_neg (by omega)]
theorem JInv.uoAt {a b : Rls} {k : Nat} {uo : List Bool} {ul : List Int} (h : JInv a b k uo ul) (h1 : k < b.on.length) (hu : k < uo.length) : uo[k] = onAt b k := by
  have := h.2.2.1 k h1
  rw [if_neg (by omega), List.getD_eq_getElem?_getD, List.getElem?_eq_getElem hu, Option.getD_some] at this
  exact this
theorem JInv.ulAt {a b : Rls} {k : Nat} {uo : List Bool} {ul : List Int} (h : JInv a b k uo ul) (h1 : k < b.level.length) (hu : k < ul.length) : ul[k] = lvAt b k := by
  have := h.2.2.2 k h1
  rw [if_neg (by omega), List.getD_eq_getElem?_getD, List.getElem?_eq_getElem hu, Option.getD_some] at this
  exact this
theorem set_same {α : Type} (vs : List α) (k : Nat) (hk : k < vs.length) (x : α) (h : vs[k] = x) : vs.set k x = vs := by rw [← h]; simp
theorem Own1.oth {base b o : Nat} {w : World} {T : Nat} {vs : List Value} {a : Option Addr} {v : Value} (h : Own1 base w T vs a) (hb : b < base) : Own1 base (w.setCell ⟨b, o, none⟩ v) T vs a := by
  rcases h with h | ⟨B, e, hB, h⟩
  · exact .inl h
  · exact .inr ⟨B, e, hB, h.oth (by omega)⟩
theorem Own1.at {base : Nat} {w : World} {T : Nat} {vs : List Value} {a : Option Addr} (h : Own1 base w T vs a) (hv : 0 < vs.length) : ∃ B, a = some ⟨B, 0, none⟩ ∧ base ≤ B ∧ RowS w B T vs := by
  rcases h with h | h
  · rw [h] at hv; cases hv
  · exact h
theorem Own1.row {base B : Nat} {w : World} {T : Nat} {vs : List Value} (hB : base ≤ B) (h : RowS w B T vs) : Own1 base w T vs (some ⟨B, 0, none⟩) := .inr ⟨B, rfl, hB, h⟩

set_option maxRecDepth 100000 in
set_option maxHeartbeats 2000000 in
theorem join_any (a b : Rls) (n : Nat) (a1 a2 a3 a4 : Option Addr) (c1 c2 c3 c4 : Nat) (w : World) (h1 : SlOf 1 RB w a1 a.on) (h2 : SlOf 1 RI w a2 a.level) (h3 : SlOf 1 RB w a3 b.on) (h4 : SlOf 1 RI w a4 b.level)
    (n1 : a.on.length = n) (n2 : a.level.length = n) (n3 : b.on.length = n) (n4 : b.level.length = n) (hn : n ≤ 16) :
    Calls Try.prog 40 #[.agg #[.slice a1 a.on.length c1, .slice a2 a.level.length c2], .agg #[.slice a3 b.on.length c3, .slice a4 b.level.length c4]] w (GivesRls w (joinR a b)) := by
  have H1 := Lib.hid h1
  have H2 := Lib.hid h2
  have H3 := Lib.hid h3
  have H4 := Lib.hid h4
  clear h1 h2 h3 h4
  have N1 := Lib.hid n1
  have N2 := Lib.hid n2
  have N3 := Lib.hid n3
  have N4 := Lib.hid n4
  have m1 : a.on.length ≤ 16 := by omega
  have m2 : a.level.length ≤ 16 := by omega
  have m3 : b.on.length ≤ 16 := by omega
  have m4 : b.level.length ≤ 16 := by omega
  clear n1 n2 n3 n4
  go_enter Try.func40, Try.ntmps40
  go_wp2_with fail
  refine (copied_any b a3 a4 c3 c4 _ (H3.out.giB (by repeat (first | with_reducible exact Gr.refl _ | with_reducible refine Gr.alloc _ ?_ | with_reducible refine Gr.xt _ _ ?_ | with_reducible refine Gr.drew ?_))) (H4.out.giI (by repeat (first | with_reducible exact Gr.refl _ | with_reducible refine Gr.alloc _ ?_ | with_reducible refine Gr.xt _ _ ?_ | with_reducible refine Gr.drew ?_))) (by omega) (by omega)).mono ?_
  rintro e W1 ⟨a5, c5, a6, c6, rfl, hc5, hc6, o1, o2, hg⟩
  have O1 := Lib.hid o1
  have O2 := Lib.hid o2
  have G1 := Lib.hid hg
  have e0 : W1.cell? ⟨w.heap.size, 0, none⟩ = some (.slice a1 a.on.length c1) := cell_gr hg (by simp [go_sem])
  have e1 : W1.cell? ⟨w.heap.size, 1, none⟩ = some (.slice a2 a.level.length c2) := cell_gr hg (by simp [go_sem])
  have e2 : W1.cell? ⟨w.heap.size + 1, 0, none⟩ = some (.slice a3 b.on.length c3) := cell_gr hg (by simp [go_sem])
  have e3 : W1.cell? ⟨w.heap.size + 1, 1, none⟩ = some (.slice a4 b.level.length c4) := cell_gr hg (by simp [go_sem])
  have E0 := Lib.hid e0
  have E1 := Lib.hid e1
  have E2 := Lib.hid e2
  have E3 := Lib.hid e3
  have r0 : Row W1 (w.heap.size + 2) 31 [.slice none 0 0, .slice none 0 0] := by
    have := Row.new ((w.alloc (.cells #[.slice a1 a.on.length c1, .slice a2 a.level.length c2] 31)).alloc (.cells #[.slice a3 b.on.length c3, .slice a4 b.level.length c4] 31)) #[.slice none 0 0, .slice none 0 0] 31
    simp only [World.size_alloc] at this
    exact this.gr hg
  have R0 := Lib.hid r0
  have sz : w.heap.size + 3 ≤ W1.heap.size := by have := hg.size; simpa using this
  clear o1 o2 hg e0 e1 e2 e3 r0
  go_wp2_with fail
  go_loopw [12] (fun i wr => ∃ k : Nat, k ≤ b.on.length ∧ i = .int .i64 k ∧ Gr ((w.alloc (.cells #[.slice a1 a.on.length c1, .slice a2 a.level.length c2] 31)).alloc (.cells #[.slice a3 b.on.length c3, .slice a4 b.level.length c4] 31)) wr ∧ Row wr (w.heap.size + 2) 31 [.slice none 0 0, .slice none 0 0] ∧ Row wr W1.heap.size 31 [.slice a5 b.on.length c5, .slice a6 b.level.length c6] ∧
      ∃ uo ul, Own1 (w.heap.size + 3) wr 4 (bools uo) a5 ∧ Own1 (w.heap.size + 3) wr 3 (nums ul) a6 ∧ JInv a b k uo ul) (fun i _ => b.on.length - (intOf i).toNat)
  case atStart =>
    refine ⟨0, Nat.zero_le _, rfl, ?_, R0.out.alloc _, Row.new W1 _ _, b.on, b.level, ?_, ?_, JInv.start a b⟩
    · refine Gr.alloc _ (Gr.trans ?_ G1.out)
      exact (Gr.refl _).alloc _
    · exact (O1.out.gr ((Gr.refl _).alloc _)).low (by simp)
    · exact (O2.out.gr ((Gr.refl _).alloc _)).low (by simp)
  case round =>
    obtain ⟨k, hk, rfl, hg, hr, hb, uo, ul, p1, p2, hinv⟩ := hrel
    have HG0 := Lib.hid hg
    have HG := Lib.hid ((((Gr.refl w).alloc _).alloc _).trans hg)
    have HR := Lib.hid hr
    have HB := Lib.hid hb
    have HI := Lib.hid hinv
    have P1 := Lib.hid p1
    have P2 := Lib.hid p2
    have e0 : wr.cell? ⟨w.heap.size, 0, none⟩ = some (.slice a1 a.on.length c1) := cell_gr hg (by simp [go_sem])
    have e1 : wr.cell? ⟨w.heap.size, 1, none⟩ = some (.slice a2 a.level.length c2) := cell_gr hg (by simp [go_sem])
    have e2 : wr.cell? ⟨w.heap.size + 1, 0, none⟩ = some (.slice a3 b.on.length c3) := cell_gr hg (by simp [go_sem])
    have e3 : wr.cell? ⟨w.heap.size + 1, 1, none⟩ = some (.slice a4 b.level.length c4) := cell_gr hg (by simp [go_sem])
    have b0 := hb.cell 0 (by simp)
    have b1 := hb.cell 1 (by simp)
    simp only [List.getElem_cons_zero, List.getElem_cons_succ] at b0 b1
    have x0 := has_of_cell e0
    have x1 := has_of_cell e2
    have x2 := hb.has
    have x3 := hr.has
    clear hg hr hb hinv p1 p2
    by_cases hlt : k < b.on.length
    · have k1 : k < a.on.length := by have := N1.out; have := N3.out; omega
      have k2 : k < a.level.length := by have := N2.out; have := N3.out; omega
      have k4 : k < b.level.length := by have := N4.out; have := N3.out; omega
      have ku : k < uo.length := by have := HI.out.1; omega
      have kl : k < ul.length := by have := HI.out.2.1; omega
      obtain ⟨B1, rfl, hB1, q1⟩ := P1.out.at (by simp [bools]; omega)
      obtain ⟨B2, rfl, hB2, q2⟩ := P2.out.at (by simp [nums]; omega)
      have Q1 := Lib.hid q1
      have Q2 := Lib.hid q2
      have t1 : W1.heap.size ≠ B1 := HB.out.s.apart q1 (by decide)
      have t2 : W1.heap.size ≠ B2 := HB.out.s.apart q2 (by decide)
      have t3 : B1 ≠ B2 := q1.apart q2 (by decide)
      have t1' := Ne.symm t1
      have t2' := Ne.symm t2
      have t3' := Ne.symm t3
      have z1 := q1.has
      have z2 := q2.has
      have z3 := q1.free k
      have z4 := q2.free k
      have z5 := q1.bat k ku
      have z6 := q2.iat k kl
      rw [HI.out.uoAt hlt ku] at z5
      rw [HI.out.ulAt k4 kl] at z6
      clear q1 q2
      obtain ⟨v1, w1, rfl, s1⟩ := (H1.out.giB HG.out).one k k1
      obtain ⟨v2, w2, rfl, s2, s2w⟩ := (H2.out.giI HG.out).one k k2
      obtain ⟨v3, w3, rfl, s3⟩ := (H3.out.giB HG.out).one k hlt
      obtain ⟨v4, w4, rfl, s4, s4w⟩ := (H4.out.giI HG.out).one k k4
      unfold RB at s1 s3
      rw [← onAt_eq k1] at s1
      rw [← onAt_eq hlt] at s3
      rw [← lvAt_eq k2] at s2
      rw [← lvAt_eq k4] at s4
      have y1 := has_of_cell s1
      have y2 := has_of_cell s2
      have y3 := has_of_cell s3
      have y4 := has_of_cell s4
      have g0 : (0 : Int) ≤ k := by omega
      have g1 : (k : Int) < a.on.length := by omega
      have g2 : (k : Int) < a.level.length := by omega
      have g3 : (k : Int) < b.on.length := by omega
      have g4 : (k : Int) < b.level.length := by omega
      clear s2w s4w
      have hst := Lib.hid (HI.out.step hlt k4)
      rcases Bool.eq_false_or_eq_true (onAt a k) with ha | ha
      · rcases Bool.eq_false_or_eq_true (onAt b k) with hb | hb
        · have HS : Hid (JInv a b (k + 1) uo (ul.set k (if lvAt a k < lvAt b k then lvAt b k else lvAt a k))) := Lib.hid (by
            have := hst.out
            rw [show jlv a b k = (if lvAt a k < lvAt b k then lvAt b k else lvAt a k) by simp [jlv, ha, hb], set_same uo k ku _ (by rw [HI.out.uoAt hlt ku, ha, hb]; rfl)] at this
            exact this)
          rw [ha] at s1
          rw [hb] at s3
          clear ha hb hst z5
          go_wp2_with fail
          go_region
          all_goals go_wp2_with fail
          all_goals go_roundw
          case rel =>
            refine ⟨k + 1, by omega, by go_num, ?_, by repeat (first | with_reducible exact HR.out | with_reducible refine Row.drew ?_ | with_reducible refine Row.oth ?_ (by omega)), by repeat (first | with_reducible exact HB.out | with_reducible refine Row.drew ?_ | with_reducible refine Row.oth ?_ (by omega)), uo, ul.set k (if lvAt a k < lvAt b k then lvAt b k else lvAt a k), ?_, ?_, HS.out⟩
            · repeat (first | with_reducible exact HG0.out | with_reducible refine Gr.setc (by simp; omega) ?_ | with_reducible refine Gr.alloc _ ?_ | with_reducible refine Gr.drew ?_)
            · exact Own1.row hB1 (by repeat (first | with_reducible exact Q1.out | with_reducible refine RowS.drew ?_ | with_reducible refine RowS.oth ?_ (by omega)))
            · refine Own1.row hB2 ?_
              with_reducible refine RowS.drew ?_
              exact Q2.out.iset k kl _
          case measure => simp [intOf]; omega
        · have HS : Hid (JInv a b (k + 1) (uo.set k true) (ul.set k (lvAt a k))) := Lib.hid (by
            have := hst.out
            rw [show jlv a b k = lvAt a k by simp [jlv, ha, hb], ha] at this
            exact this)
          rw [ha] at s1
          rw [hb] at s3
          clear ha hb hst
          go_wp2_with fail
          go_region
          all_goals go_wp2_with fail
          all_goals go_roundw
          case rel =>
            refine ⟨k + 1, by omega, by go_num, ?_, by repeat (first | with_reducible exact HR.out | with_reducible refine Row.drew ?_ | with_reducible refine Row.oth ?_ (by omega)), by repeat (first | with_reducible exact HB.out | with_reducible refine Row.drew ?_ | with_reducible refine Row.oth ?_ (by omega)), uo.set k true, ul.set k (lvAt a k), ?_, ?_, HS.out⟩
            · repeat (first | with_reducible exact HG0.out | with_reducible refine Gr.setc (by simp; omega) ?_ | with_reducible refine Gr.alloc _ ?_ | with_reducible refine Gr.drew ?_)
            · exact Own1.row hB1 (by repeat (first | with_reducible exact Q1.out.bset k ku _ | with_reducible refine RowS.drew ?_ | with_reducible refine RowS.oth ?_ (by omega)))
            · exact Own1.row hB2 (by repeat (first | with_reducible exact Q2.out.iset k kl _ | with_reducible refine RowS.drew ?_ | with_reducible refine RowS.oth ?_ (by omega) | with_reducible refine RowS.iset ?_ k kl _ | with_reducible exact Q2.out))
          case measure => simp [intOf]; omega
      · have HS : Hid (JInv a b (k + 1) uo ul) := Lib.hid (by
          have := hst.out
          rw [show jlv a b k = lvAt b k by simp [jlv, ha], ha, Bool.false_or, set_same uo k ku _ (HI.out.uoAt hlt ku), set_same ul k kl _ (HI.out.ulAt k4 kl)] at this
          exact this)
        rw [ha] at s1
        clear ha hst
        go_wp2_with fail
        go_roundw
        case rel => exact ⟨k + 1, by omega, by go_num, HG0.out, HR.out, HB.out, uo, ul, P1.out, P2.out, HS.out⟩
        case measure => simp [intOf]; omega
    · have hkb : k = b.on.length := by omega
      subst hkb
      obtain ⟨d1, d2⟩ := HI.out.done (Nat.le_refl _) (by have := N3.out; have := N4.out; omega)
      have r0 := HR.out.cell 0 (by simp)
      have r1 := HR.out.cell 1 (by simp)
      have r2 := HR.out.free 0
      have r3 := HR.out.free 1
      simp only [List.getElem_cons_zero, List.getElem_cons_succ] at r0 r1
      have D1 := Lib.hid d1
      have D2 := Lib.hid d2
      clear d1 d2
      go_wp2_with fail
      refine bodyPost_ret (v := .agg #[.slice a5 b.on.length c5, .slice a6 b.level.length c6]) ?_ rfl ?_
      · simp [results, Try.results40, go_sem, r0, r1]
      · have p1 := P1.out
        have p2 := P2.out
        rw [D1.out] at p1
        rw [D2.out] at p2
        refine ⟨a5, c5, a6, c6, by rw [joinR_on_len, joinR_lv_len], by rw [joinR_on_len]; exact hc5, by rw [joinR_lv_len]; exact hc6, ?_, ?_, ?_⟩
        · exact ((p1.oth (by omega)).oth (by omega)).low (by omega)
        · exact ((p2.oth (by omega)).oth (by omega)).low (by omega)
        · repeat (first | with_reducible exact HG.out | with_reducible refine Gr.setc (by omega) ?_)
end Go.Proofs.Ytoenkcojfogmmaa
