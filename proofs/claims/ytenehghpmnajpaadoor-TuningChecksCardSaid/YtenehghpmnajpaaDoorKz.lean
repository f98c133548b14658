/- Contracts of tuning.judge and tuning.start. Contract of tuning.start. (several texts in one, by wip/tools/merge.py) -/
import Derived.Test.YtenehghpmnajpaaDoorKy
import Derived.Test.YtenehghpmnajpaaDoorKt
import Derived.Test.YtenehghpmnajpaaDoorKx
import Derived.Test.YtenehghpmnajpaaDoorKs
/-! Contracts of tuning.judge and tuning.start. -/
set_option linter.unusedVariables false
set_option linter.unusedSimpArgs false
namespace Go.Proofs.YtenehghpmnajpaaDoor
open Go.RowKit
open Classical

theorem PrtOk.wide {l : List Clk} {p : List Int} (hc : cchk l = 0) (hp : PrtOk l p) : ∀ k (hk : k < p.length), Wide p[k] := fun k hk => by
  obtain ⟨nb, _, _, _⟩ := cchk_zero hc
  have hkl : k < l.length := by rw [← hp.1]; exact hk
  have h1 := hp.2 k hkl
  rw [sOf_at hk, kOf_at hkl] at h1
  have := (small_at nb hkl).2
  unfold Wide; omega
set_option maxRecDepth 100000 in
set_option maxHeartbeats 2000000 in
theorem judge_any (l : List Clk) (bs : List Bnd) (p : List Int) (al ab aS : Option Addr) (cl cb cs : Nat) (w : World) (hc : cchk l = 0) (hp : PrtOk l p) (h : SlOf 5 RClk w al l) (hb : SlOf 5 RBnd w ab bs) (hs : SlOf 1 RI w aS p) (hbo : ∀ b ∈ bs, BndOk l b) (hbl : bs.length ≤ 48) :
    Calls Tryd.prog 109 #[.slice al l.length cl, .slice ab bs.length cb, .slice aS p.length cs] w (Grows w (.tuple #[.int .i64 (judgeGo l p bs (-1)).1, .int .i64 (judgeGo l p bs (-1)).2])) := by
  have H := Lib.hid h
  have HB := Lib.hid hb
  have HS := Lib.hid hs
  have HC := Lib.hid hc
  have HP := Lib.hid hp
  have BO := Lib.hid hbo
  have hl := small_len (cchk_zero hc).1
  clear h hb hs hc hp hbo
  go_enter Tryd.func109, Tryd.ntmps109
  go_wp2_with fail
  go_loopw [7, 15] (fun s7 s15 wr => ∃ (k : Nat) (nx : Int), k ≤ bs.length ∧ s15 = .int .i64 (k : Int) ∧ s7 = .int .i64 nx ∧ judgeGo l p (bs.drop k) nx = judgeGo l p bs (-1) ∧ Gr w wr) (fun _ s15 _ => bs.length - (intOf s15).toNat)
  case atStart => exact ⟨0, -1, Nat.zero_le _, rfl, rfl, by rw [List.drop_zero], Gr.refl _⟩
  case round =>
    obtain ⟨k, nx, hk, rfl, rfl, hj, hg⟩ := hrel
    have HG := Lib.hid hg
    by_cases hlt : k < bs.length
    · obtain ⟨b, o, rfl, d0, d1, d2, d3, d4⟩ := (HB.out.gr RBnd.mono hg) k hlt
      obtain ⟨q0, q1⟩ := BO.out _ (List.getElem_mem hlt)
      have ed : bs.drop k = bs[k] :: bs.drop (k + 1) := List.drop_eq_getElem_cons hlt
      obtain ⟨x, hx⟩ : ∃ x, bs[k] = x := ⟨_, rfl⟩
      rw [hx] at d0 d1 d2 d3 d4 q0 q1 ed
      rw [ed] at hj
      obtain ⟨q, hq⟩ : ∃ q : Nat, x.clock = q := ⟨_, (Int.toNat_of_nonneg q0).symm⟩
      have hql : q < l.length := by omega
      have eq : x.clock.toNat = q := by omega
      rw [hq] at d1
      have DC := Lib.hid (fun W (hW : Gr w W) => decided_any l p al aS cl cs HC.out HP.out q hql W (clks_gr H.out hW) (HS.out.giI hW))
      have GD := Lib.hid (fun r (hr : dec l p q = .isr r) => (dec_good HC.out HP.out hql hr).2)
      have k2 : (k : Int) < bs.length := by omega
      have hh := has_of_cell d0
      simp only [judgeGo, eq] at hj
      have XC := Lib.hid hq
      obtain ⟨dq, hdq⟩ : ∃ dq, dec l p q = dq := ⟨_, rfl⟩
      rw [hdq] at hj GD DC
      have HJ := Lib.hid hj
      have BK := Lib.hid (fun W r (hr : dq = .isr r) => broken_any x r W (GD.out r hr))
      rw [hq] at BK
      clear hg ed hj q0 q1 hx hq eq hdq
      cases dq with
      | opn f =>
        have hj := HJ.out
        simp only at hj
        have HJ' := Lib.hid hj
        clear hj HJ BK GD
        by_cases hn : nx < 0
        · have bn : decide (nx < 0) = true := decide_eq_true hn
          rw [if_pos hn] at HJ'
          clear hn
          go_wp2_with fail
          refine (DC.out _ (HG.out.alloc _)).mono ?_
          rintro e w2 ⟨rfl, hg2⟩
          have G2 := Lib.hid ((HG.out.alloc _).trans hg2)
          clear hg2 d0 d1 d2 d3 d4 hh
          simp only [decV]
          go_wp2_with fail
          go_roundw
          case rel => exact ⟨k + 1, f, by omega, by go_num, rfl, HJ'.out, G2.out.alloc _⟩
          case measure => simp [intOf]; omega
        · have bn : decide (nx < 0) = false := decide_eq_false hn
          rw [if_neg hn] at HJ'
          clear hn
          go_wp2_with fail
          refine (DC.out _ (HG.out.alloc _)).mono ?_
          rintro e w2 ⟨rfl, hg2⟩
          have G2 := Lib.hid ((HG.out.alloc _).trans hg2)
          clear hg2 d0 d1 d2 d3 d4 hh
          simp only [decV]
          go_wp2_with fail
          go_roundw
          case rel => exact ⟨k + 1, nx, by omega, by go_num, rfl, HJ'.out, G2.out.alloc _⟩
          case measure => simp [intOf]; omega
      | isr r =>
        have hj := HJ.out
        simp only at hj
        have HJ' := Lib.hid hj
        have BK' := Lib.hid (fun W => BK.out W r rfl)
        clear hj HJ BK GD
        obtain ⟨BC, hBC⟩ : ∃ BC : Nat, Hid (wr.heap.size = BC) := ⟨_, Lib.hid rfl⟩
        obtain ⟨W3, hW3⟩ : ∃ W3 : World, Hid (W3 = wr.alloc (.cells #[.int .i64 x.index, .int .i64 (q : Int), .int .i64 x.low, .int .i64 x.high, .bool x.idle] 115)) := ⟨_, Lib.hid rfl⟩
        have RC : Hid (Row W3 BC 115 [.int .i64 x.index, .int .i64 (q : Int), .int .i64 x.low, .int .i64 x.high, .bool x.idle]) := Lib.hid (by rw [hW3.out, ← hBC.out]; exact Row.new wr _ _)
        have G3 : Hid (Gr w W3) := Lib.hid (by rw [hW3.out]; exact HG.out.alloc _)
        cases hb : brokB x r with
        | true =>
          rw [hb] at HJ' BK'
          clear hb
          go_wp2_with fail
          rw [← hW3.out]
          refine (DC.out _ G3.out).mono ?_
          rintro e w2 ⟨rfl, hg2⟩
          have G2 := Lib.hid (G3.out.trans hg2)
          have rc := RC.out.gr hg2
          have m0 := rc.cell 0 (by simp)
          have m1 := rc.cell 1 (by simp)
          have m2 := rc.cell 2 (by simp)
          have m3 := rc.cell 3 (by simp)
          have m4 := rc.cell 4 (by simp)
          have mh := rc.has
          simp only [List.getElem_cons_zero, List.getElem_cons_succ] at m0 m1 m2 m3 m4
          have hBC' := hBC.out
          clear hg2 d0 d1 d2 d3 d4 hh rc hW3
          simp only [decV]
          go_wp2_with fail
          refine (BK'.out _).mono ?_
          rintro e w4 ⟨rfl, hg4⟩
          have n0 := cell_gr hg4 (cell_gr ((Gr.refl w2).alloc (.cells #[.int .i64 (numR r), .int .i64 (denR r)] 56)) m0)
          have nh := has_of_cell n0
          have G4 := Lib.hid ((G2.out.alloc _).trans hg4)
          clear hg4 m0 m1 m2 m3 m4 mh
          go_wp2_with fail
          go_ret2
          refine ⟨?_, G4.out⟩
          have := HJ'.out
          simp only [if_true] at this
          rw [← this]; rfl
        | false =>
          rw [hb] at HJ' BK'
          clear hb
          go_wp2_with fail
          rw [← hW3.out]
          refine (DC.out _ G3.out).mono ?_
          rintro e w2 ⟨rfl, hg2⟩
          have G2 := Lib.hid (G3.out.trans hg2)
          have rc := RC.out.gr hg2
          have m0 := rc.cell 0 (by simp)
          have m1 := rc.cell 1 (by simp)
          have m2 := rc.cell 2 (by simp)
          have m3 := rc.cell 3 (by simp)
          have m4 := rc.cell 4 (by simp)
          have mh := rc.has
          simp only [List.getElem_cons_zero, List.getElem_cons_succ] at m0 m1 m2 m3 m4
          have hBC' := hBC.out
          clear hg2 d0 d1 d2 d3 d4 hh rc hW3
          simp only [decV]
          go_wp2_with fail
          refine (BK'.out _).mono ?_
          rintro e w4 ⟨rfl, hg4⟩
          have G4 := Lib.hid ((G2.out.alloc _).trans hg4)
          clear hg4 m0 m1 m2 m3 m4 mh
          go_wp2_with fail
          go_roundw
          case rel =>
            refine ⟨k + 1, nx, by omega, by go_num, rfl, ?_, G4.out⟩
            have := HJ'.out
            simpa using this
          case measure => simp [intOf]; omega
    · have hk' : k = bs.length := by omega
      subst hk'
      rw [List.drop_length] at hj
      have e : judgeGo l p bs (-1) = (-1, nx) := by rw [← hj]; rfl
      have E := Lib.hid e
      clear hj e
      go_wp2_with fail
      go_ret2
      exact ⟨by rw [E.out]; rfl, hg⟩
end Go.Proofs.YtenehghpmnajpaaDoor

/-! Contract of tuning.start. -/
set_option linter.unusedVariables false
set_option linter.unusedSimpArgs false
namespace Go.Proofs.YtenehghpmnajpaaDoor
open Go.RowKit
open Classical

def startK (l : List Clk) (k : Nat) : List Int := startS (l.take k) ++ List.replicate (l.length - k) 0
theorem startK_len (l : List Clk) (k : Nat) (h : k ≤ l.length) : (startK l k).length = l.length := by simp [startK, startS]; omega
theorem startK_step (l : List Clk) (k : Nat) (h : k < l.length) : startK l (k + 1) = (startK l k).set k (if 1 < l[k].choices.length then -1 else 0) := by
  have e1 : l.take (k + 1) = l.take k ++ [l[k]] := take_snoc_get l k h
  have e2 : l.length - k = (l.length - (k + 1)) + 1 := by omega
  have e3 : (startS (l.take k)).length = k := by simp [startS]; omega
  unfold startK
  rw [List.set_append_right _ _ (by omega), e3, Nat.sub_self, e2, List.replicate_succ, List.set_cons_zero, e1]
  simp only [startS, List.map_append, List.map_cons, List.map_nil, List.append_assoc, List.cons_append, List.nil_append]
set_option maxRecDepth 100000 in
set_option maxHeartbeats 2000000 in
theorem start_any (l : List Clk) (al : Option Addr) (cl : Nat) (w : World) (hc : cchk l = 0) (h : SlOf 5 RClk w al l) (h1 : 1 ≤ l.length) :
    Calls Tryd.prog 75 #[.slice al l.length cl] w fun e w' => ∃ B, e = .returned (.slice (some ⟨B, 0, none⟩) l.length l.length) ∧ NewI w (startS l) B w' := by
  have H := Lib.hid h
  have hl := small_len (cchk_zero hc).1
  have NB := Lib.hid (cchk_zero hc).1
  have hmk := run_make_row' (P := Tryd.prog) 22 3 (.int .i64 0) 8 Tryd.underlying22 infoInt rfl .i64 .i64 l.length (by omega) (by omega)
  clear h hc
  go_enter Tryd.func75, Tryd.ntmps75
  go_wp2_with fail
  obtain ⟨W2, hW2⟩ : ∃ W2 : World, Hid (W2 = w.alloc (.cells (madeCells #[.int .i64 0] l.length) 3)) := ⟨_, Lib.hid rfl⟩
  rw [← hW2.out]
  obtain ⟨SB, hSB⟩ : ∃ SB : Nat, Hid (w.heap.size = SB) := ⟨_, Lib.hid rfl⟩
  rw [hSB.out]
  have R2 : Hid (Row W2 SB 3 (nums (startK l 0))) := Lib.hid (by
    rw [hW2.out, ← hSB.out]
    have := Row.new w (madeCells #[.int .i64 0] l.length) 3
    have e : (madeCells #[Value.int .i64 0] l.length).toList = nums (startK l 0) := by
      rw [made_zero]; simp [startK, startS, nums]
    rwa [e] at this)
  have G2 : Hid (Gr w W2) := Lib.hid (by rw [hW2.out]; exact (Gr.refl _).alloc _)
  have sb := Lib.hid (show w.heap.size ≤ SB by rw [hSB.out]; exact Nat.le_refl _)
  clear hW2
  go_loopw [11] (fun s11 wr => ∃ k : Nat, k ≤ l.length ∧ s11 = .int .i64 (k : Int) ∧ Row wr SB 3 (nums (startK l k)) ∧ Gr w wr) (fun s11 _ => l.length - (intOf s11).toNat)
  case atStart => exact ⟨0, Nat.zero_le _, rfl, R2.out, G2.out⟩
  case round =>
    obtain ⟨k, hk, rfl, hr, hg⟩ := hrel
    have HR := Lib.hid hr
    have HG := Lib.hid hg
    by_cases hlt : k < l.length
    · obtain ⟨b, o, rfl, ⟨d0, _⟩, ⟨ap, cp, d1, _⟩, ⟨ac, cc, d2, _, d2f, _⟩, ⟨d3, _⟩, ⟨d4, _⟩⟩ := clks_gr H.out hg k hlt
      have k2 : (k : Int) < l.length := by omega
      have hh := has_of_cell d0
      have SS := Lib.hid (startK_step l k hlt)
      have e0 := hr.iat k (by rw [startK_len l k hk]; exact hlt)
      have f0 := hr.free k
      have rh := hr.has
      by_cases hb : 1 < l[k].choices.length
      · have b1 : decide ((1 : Int) < (l[k].choices.length : Int)) = true := decide_eq_true (by omega)
        rw [if_pos hb] at SS
        clear hb hr hg
        go_wp2_with fail
        go_roundw
        case rel =>
          refine ⟨k + 1, by omega, by go_num, ?_, (HG.out.setc sb.out).alloc _⟩
          rw [SS.out]
          exact (HR.out.iset k (-1)).alloc _
        case measure => simp [intOf]; omega
      · have b1 : decide ((1 : Int) < (l[k].choices.length : Int)) = false := decide_eq_false (by omega)
        rw [if_neg hb] at SS
        clear hb hr hg
        go_wp2_with fail
        go_roundw
        case rel =>
          refine ⟨k + 1, by omega, by go_num, ?_, HG.out.alloc _⟩
          rw [SS.out]
          have e : (startK l k).set k 0 = startK l k := by
            refine set_same _ _ (by rw [startK_len l k hk]; exact hlt) _ ?_
            have : (startS (l.take k)).length = k := by simp [startS]; omega
            simp only [startK]
            rw [List.getElem_append_right (by omega)]
            simp
          rw [e]
          exact HR.out.alloc _
        case measure => simp [intOf]; omega
    · have hk' : k = l.length := by omega
      subst hk'
      have e : startK l l.length = startS l := by simp [startK]
      rw [e] at hr
      clear HR
      go_wp2_with fail
      go_ret
      exact ⟨SB, rfl, hr.s, sb.out, hg⟩
end Go.Proofs.YtenehghpmnajpaaDoor

/-! Contracts of the reference's breaks and begin. -/
set_option linter.unusedVariables false
set_option linter.unusedSimpArgs false
namespace Go.Proofs.YtenehghpmnajpaaDoor
open Go.RowKit
open Classical

set_option maxRecDepth 100000 in
set_option maxHeartbeats 4000000 in
theorem breaks_any (l : List Clk) (ms : List Lmt) (p : List Int) (x : Int) (al am aS : Option Addr) (cl cm cs : Nat) (w : World) (hc : cchk l = 0) (hp : PrtOk l p) (h : SlOf 5 RClk w al l) (hm : SlOf 3 RLmt w am ms) (hs : SlOf 1 RI w aS p) (hlm : LsOk l ms) (h0 : 0 ≤ x) (hx : x ≤ 9223372036854775807) :
    Calls Tryd.prog 83 #[.slice al l.length cl, .slice am ms.length cm, .slice aS p.length cs, .int .i64 x] w (Grows w (.bool (leafS l ms p x))) := by
  have hl := small_len (cchk_zero hc).1
  have hml := hlm.1
  have H := Lib.hid h
  have HS := Lib.hid hs
  have lp : p.length = l.length := hp.1
  have nh := Lib.hid (show True from trivial)
  rw [lp]
  have RD := Lib.hid (fun (k : Nat) (hk : k < l.length) W (hW : Gr w W) => refDecided_any l p al aS cl cs hc hp k hk W (clks_gr h hW) (hs.giI hW))
  rw [lp] at RD
  have RV : Hid (∀ k, k < l.length → (∃ f, dec l p k = .opn f ∧ decR l p k = decRV 0 0 false false) ∨ (∃ r n d, dec l p k = .isr r ∧ decR l p k = decRV n d r.isSome true ∧ (∀ y, r = some y → y = (n, d)) ∧ validB n d = true)) := Lib.hid (fun k hk => by
    cases e : dec l p k with
    | opn f => exact .inl ⟨f, rfl, decR_opn e⟩
    | isr r =>
      obtain ⟨n, d, e2, h3⟩ := (dec_openG hc hp k hk).2 r e
      exact .inr ⟨r, n, d, rfl, decR_isr e e2, h3, ((dec_good hc (openG_ok hc hp) hk e2).2 n d rfl).1⟩)
  by_cases h1 : x < ms.length
  · obtain ⟨j, hj⟩ : ∃ j : Nat, x = j := ⟨_, (Int.toNat_of_nonneg h0).symm⟩
    subst hj
    have hjl : j < ms.length := by omega
    have b1 : decide ((j : Int) < ms.length) = true := decide_eq_true h1
    obtain ⟨bm, om, eam, ⟨d0, _⟩, ⟨d1, y1⟩, ⟨d2, y2⟩⟩ := hm j hjl
    subst eam
    obtain ⟨q0, q1, _⟩ := hlm.2 j hjl
    obtain ⟨q, hq⟩ : ∃ q : Nat, ms[j].clock = q := ⟨_, (Int.toNat_of_nonneg q0).symm⟩
    have hql : q < l.length := by omega
    have V := Lib.hid (leafS_lim (l := l) (p := p) hjl)
    have eq : ms[j].clock.toNat = q := by omega
    rw [eq] at V
    rw [hq] at d0
    have hh := has_of_cell d0
    have RDq := Lib.hid (RD.out q hql)
    obtain ⟨lo, hlo⟩ : ∃ lo, ms[j].low = lo := ⟨_, rfl⟩
    obtain ⟨hi, hhi⟩ : ∃ hi, ms[j].high = hi := ⟨_, rfl⟩
    have LO := Lib.hid hlo
    have HI := Lib.hid hhi
    rw [hlo] at d1
    rw [hhi] at d2
    obtain ⟨BM, hBM⟩ : ∃ BM : Nat, Hid (w.heap.size = BM) := ⟨_, Lib.hid rfl⟩
    obtain ⟨W3, hW3⟩ : ∃ W3 : World, Hid (W3 = w.alloc (.cells #[.int .i64 (q : Int), .int .i64 lo, .int .i64 hi] 53)) := ⟨_, Lib.hid rfl⟩
    have R3 : Hid (Row W3 BM 53 [.int .i64 (q : Int), .int .i64 lo, .int .i64 hi]) := Lib.hid (by rw [hW3.out, ← hBM.out]; exact Row.new w _ _)
    have G3 : Hid (Gr w W3) := Lib.hid (by rw [hW3.out]; exact (Gr.refl _).alloc _)
    rcases RV.out q hql with ⟨f, e1, e2⟩ | ⟨r, n, d, e1, e2, e3, e4⟩
    · have VF : Hid (leafS l ms p (j : Int) = false) := Lib.hid (by rw [V.out, e1]; rfl)
      rw [e2] at RDq
      simp only [decRV] at RDq
      clear hm h hs hc hp hlm RD RV e1 e2 V y1 y2 q0 q1 hq eq hlo hhi h1 h0 hx
      rw [VF.out]
      go_enter Tryd.func83, Tryd.ntmps83
      go_wp2_with fail
      rw [← hW3.out, hBM.out]
      refine (RDq.out _ G3.out).mono ?_
      rintro e w5 ⟨rfl, hg5⟩
      have m0 := (R3.out.gr hg5).cell 0 (by simp)
      have mh := (R3.out.gr hg5).has
      simp only [List.getElem_cons_zero] at m0
      have G5 := Lib.hid (G3.out.trans hg5)
      clear hg5
      go_wp2_with fail
      go_ret
      exact ⟨rfl, by repeat (first | with_reducible exact G5.out | with_reducible refine Gr.alloc _ ?_ | with_reducible refine Gr.xt _ _ ?_)⟩
    · have VF : Hid (leafS l ms p (j : Int) = !okIn r lo hi) := Lib.hid (by rw [V.out, e1, leafD, LO.out, HI.out])
      rw [e2] at RDq
      simp only [decRV] at RDq
      obtain ⟨v1, v2, v3, v4, v5⟩ := valid_parts e4
      have WI := Lib.hid (fun W => refWithin_any n d lo hi W (by omega) (by omega) (by omega) (by omega))
      have E3 := Lib.hid e3
      clear hm h hs hc hp hlm RD RV e1 e2 V q0 q1 hq eq hlo hhi h1 h0 hx e3 e4 v1 v2 v3 v4 v5 y1 y2
      rw [VF.out]
      go_enter Tryd.func83, Tryd.ntmps83
      go_wp2_with fail
      rw [← hW3.out, hBM.out]
      refine (RDq.out _ G3.out).mono ?_
      rintro e w5 ⟨rfl, hg5⟩
      have m0 := (R3.out.gr hg5).cell 0 (by simp)
      have m1 := (R3.out.gr hg5).cell 1 (by simp)
      have m2 := (R3.out.gr hg5).cell 2 (by simp)
      have mh := (R3.out.gr hg5).has
      simp only [List.getElem_cons_zero, List.getElem_cons_succ] at m0 m1 m2
      have G5 := Lib.hid (G3.out.trans hg5)
      clear hg5
      cases r with
      | none =>
        simp only [Option.isSome_none]
        go_wp2_with fail
        go_ret
        exact ⟨rfl, by repeat (first | with_reducible exact G5.out | with_reducible refine Gr.alloc _ ?_ | with_reducible refine Gr.xt _ _ ?_)⟩
      | some y =>
        have ey := E3.out y rfl
        subst ey
        simp only [Option.isSome_some, okIn]
        go_wp2_with fail
        refine (WI.out _).mono ?_
        rintro e w6 ⟨rfl, hg6⟩
        go_wp2_with fail
        go_ret
        exact ⟨rfl, (G5.out.alloc _).trans hg6⟩
  · have b1 : decide (x < (ms.length : Int)) = false := decide_eq_false h1
    have w1 : IntKind.i64.wrap (x - (ms.length : Int)) = x - (ms.length : Int) := by rw [IntKind.wrap_i64]; omega
    by_cases h2 : (l.length : Int) ≤ x - ms.length
    · have VF := Lib.hid (leafS_out (l := l) (ms := ms) (p := p) (x := x) (by omega))
      have b2 : decide ((l.length : Int) ≤ x - (ms.length : Int)) = true := decide_eq_true h2
      clear hm h hs hc hp hlm RD RV h1 h0 hx h2
      rw [VF.out]
      go_enter Tryd.func83, Tryd.ntmps83
      go_wp2_with fail
      go_ret
      exact ⟨rfl, Gr.refl _⟩
    · have b2 : decide ((l.length : Int) ≤ x - (ms.length : Int)) = false := decide_eq_false h2
      obtain ⟨k, hk⟩ : ∃ k : Nat, x - ms.length = k := ⟨_, (Int.toNat_of_nonneg (by omega)).symm⟩
      have hkl : k < l.length := by omega
      have ex : x = (ms.length : Int) + (k : Int) := by omega
      have V := Lib.hid (leafS_own (ms := ms) (p := p) hkl)
      rw [← ex] at V
      obtain ⟨bc, oc, eal, ⟨c0, _⟩, ⟨ap, cp, c1, _⟩, ⟨ac, cc, c2, _⟩, ⟨c3, y3⟩, ⟨c4, y4⟩⟩ := h k hkl
      subst eal
      have hh := has_of_cell c3
      have RDq := Lib.hid (RD.out k hkl)
      obtain ⟨lo, hlo⟩ : ∃ lo, l[k].low = lo := ⟨_, rfl⟩
      obtain ⟨hi, hhi⟩ : ∃ hi, l[k].high = hi := ⟨_, rfl⟩
      have HI := Lib.hid hhi
      have LO := Lib.hid hlo
      rw [hlo] at c3
      rw [hhi] at c4
      have k2 : (k : Int) < l.length := by omega
      have C3 := Lib.hid c3
      have C4 := Lib.hid c4
      rcases RV.out k hkl with ⟨f, e1, e2⟩ | ⟨r, n, d, e1, e2, e3, e4⟩
      · have VF : Hid (leafS l ms p x = false) := Lib.hid (by rw [V.out, e1]; rfl)
        rw [e2] at RDq
        simp only [decRV] at RDq
        rw [hk] at w1 b2
        clear hm h hs hc hp hlm RD RV e1 e2 V y3 y4 hlo hhi h1 h0 hx h2 ex
        rw [VF.out]
        go_enter Tryd.func83, Tryd.ntmps83
        go_wp2_with fail
        refine (RDq.out _ (Gr.refl _)).mono ?_
        rintro e w5 ⟨rfl, hg5⟩
        have d3 := cell_gr hg5 C3.out
        have d4 := cell_gr hg5 C4.out
        have dh := has_of_cell d3
        have G5 := Lib.hid hg5
        clear hg5 c0 c1 c2 c3 c4 hh
        go_wp2_with fail
        refine wp_region_grows (by kernel_rfl) (by kernel_rfl) ?_
        repeat (go_big_quiet_step (fail))
        refine wpQuiet_nil ?_
        rintro _ ⟨⟨O, dd⟩, rfl⟩
        go_wp2_with fail
        go_ret
        exact ⟨rfl, by repeat (first | with_reducible exact G5.out | with_reducible refine Gr.alloc _ ?_ | with_reducible refine Gr.xt _ _ ?_ | with_reducible refine Gr.drew ?_ | with_reducible refine Gr.drewN _ ?_)⟩
      · have VF : Hid (leafS l ms p x = leafO (.isr r) l[k]) := Lib.hid (by rw [V.out, e1])
        rw [e2] at RDq
        simp only [decRV] at RDq
        obtain ⟨v1, v2, v3, v4, v5⟩ := valid_parts e4
        have WI := Lib.hid (fun W => refWithin_any n d lo hi W (by omega) (by omega) (by omega) (by omega))
        have E3 := Lib.hid e3
        rw [hk] at w1 b2
        have HHI := Lib.hid hhi
        have HLO := Lib.hid hlo
        clear hm h hs hc hp hlm RD RV e1 e2 V y3 y4 hlo hhi h1 h0 hx h2 ex e3 e4 v1 v2 v3 v4 v5
        rw [VF.out]
        cases r with
        | none =>
          simp only [leafO, Option.isSome_none] at RDq ⊢
          go_enter Tryd.func83, Tryd.ntmps83
          go_wp2_with fail
          refine (RDq.out _ (Gr.refl _)).mono ?_
          rintro e w5 ⟨rfl, hg5⟩
          have d3 := cell_gr hg5 C3.out
          have d4 := cell_gr hg5 C4.out
          have dh := has_of_cell d3
          have G5 := Lib.hid hg5
          clear hg5 c0 c1 c2 c3 c4 hh
          go_wp2_with fail
          refine wp_region_grows (by kernel_rfl) (by kernel_rfl) ?_
          repeat (go_big_quiet_step (fail))
          refine wpQuiet_nil ?_
          rintro _ ⟨⟨O, dd⟩, rfl⟩
          go_wp2_with fail
          go_ret
          exact ⟨rfl, by repeat (first | with_reducible exact G5.out | with_reducible refine Gr.alloc _ ?_ | with_reducible refine Gr.xt _ _ ?_ | with_reducible refine Gr.drew ?_ | with_reducible refine Gr.drewN _ ?_)⟩
        | some y =>
          have ey := E3.out y rfl
          subst ey
          simp only [leafO, Option.isSome_some] at RDq ⊢
          by_cases hz : hi = 0
          · have bz : (hi != 0) = false := by simp [hz]
            have VZ : Hid ((l[k].high != 0 && !withinB n d l[k].low l[k].high) = false) := Lib.hid (by rw [HHI.out, hz]; rfl)
            rw [VZ.out]
            clear hz
            go_enter Tryd.func83, Tryd.ntmps83
            go_wp2_with fail
            refine (RDq.out _ (Gr.refl _)).mono ?_
            rintro e w5 ⟨rfl, hg5⟩
            have d3 := cell_gr hg5 C3.out
            have d4 := cell_gr hg5 C4.out
            have dh := has_of_cell d3
            have G5 := Lib.hid hg5
            clear hg5 c0 c1 c2 c3 c4 hh
            go_wp2_with fail
            refine wp_region_grows (by kernel_rfl) (by kernel_rfl) ?_
            repeat (go_big_quiet_step (fail))
            refine wpQuiet_nil ?_
            rintro _ ⟨⟨O, dd⟩, rfl⟩
            go_wp2_with fail
            go_ret
            exact ⟨rfl, by repeat (first | with_reducible exact G5.out | with_reducible refine Gr.alloc _ ?_ | with_reducible refine Gr.xt _ _ ?_ | with_reducible refine Gr.drew ?_ | with_reducible refine Gr.drewN _ ?_)⟩
          · have bz : (hi != 0) = true := by simp [hz]
            have VZ : Hid ((l[k].high != 0 && !withinB n d l[k].low l[k].high) = !withinB n d lo hi) := Lib.hid (by rw [HHI.out, HLO.out, bz]; simp)
            rw [VZ.out]
            clear hz
            go_enter Tryd.func83, Tryd.ntmps83
            go_wp2_with fail
            refine (RDq.out _ (Gr.refl _)).mono ?_
            rintro e w5 ⟨rfl, hg5⟩
            have d3 := cell_gr hg5 C3.out
            have d4 := cell_gr hg5 C4.out
            have dh := has_of_cell d3
            have G5 := Lib.hid hg5
            clear hg5 c0 c1 c2 c3 c4 hh
            go_wp2_with fail
            refine wp_region_grows (by kernel_rfl) (by kernel_rfl) ?_
            repeat (go_big_quiet_step (first | (go_at_call 26; exact calls_grows (WI.out _))))
            refine wpQuiet_nil ?_
            rintro _ ⟨⟨O, dd⟩, rfl⟩
            go_wp2_with fail
            go_ret
            exact ⟨rfl, by repeat (first | with_reducible exact G5.out | with_reducible refine Gr.alloc _ ?_ | with_reducible refine Gr.xt _ _ ?_ | with_reducible refine Gr.drew ?_ | with_reducible refine Gr.drewN _ ?_)⟩
end Go.Proofs.YtenehghpmnajpaaDoor

/-! Lists of settings in memory, as the reference's check of branches keeps them; branches that are read. -/
set_option linter.unusedVariables false
set_option linter.unusedSimpArgs false
namespace Go.Proofs.YtenehghpmnajpaaDoor
open Go.RowKit
open Classical

def RBrn (w : World) (b o : Nat) (x : Brn) : Prop := RI w b o x.limit ∧ RI w b (o + 1) x.clock ∧ RSl 1 RI w b (o + 2) x.next
theorem RBrn.mono : Mono RBrn := fun _ _ _ _ _ hg ⟨h0, h1, h2⟩ => ⟨RI.mono _ _ _ _ _ hg h0, RI.mono _ _ _ _ _ hg h1, RSl.mono RI.mono _ _ _ _ _ hg h2⟩
def SlotOf (base : Nat) (w : World) (L : Nat) (v : Value) (o : Option (List Int)) : Prop := match o with | none => v = .slice none 0 0 | some s => ∃ B c, v = .slice (some ⟨B, 0, none⟩) L c ∧ base ≤ B ∧ RowS w B 3 (nums s)
def SetsAt (base : Nat) (w : World) (SG L : Nat) (S : Sets) : Prop := ∃ vs, Row w SG 22 vs ∧ vs.length = S.length ∧ (∀ k (h : k < vs.length) (h' : k < S.length), SlotOf base w L vs[k] S[k]) ∧ base ≤ SG
theorem SlotOf.gr {base L : Nat} {w w' : World} {v : Value} {o : Option (List Int)} (h : SlotOf base w L v o) (hg : Gr w w') : SlotOf base w' L v o := by
  cases o with
  | none => exact h
  | some s => obtain ⟨B, c, e, hb, r⟩ := h; exact ⟨B, c, e, hb, r.gr hg⟩
theorem SetsAt.gr {base SG L : Nat} {w w' : World} {S : Sets} (h : SetsAt base w SG L S) (hg : Gr w w') : SetsAt base w' SG L S := by
  obtain ⟨vs, r, hl, hs, hb⟩ := h
  exact ⟨vs, r.gr hg, hl, fun k h h' => (hs k h h').gr hg, hb⟩
theorem SetsAt.get {base SG L : Nat} {w : World} {S : Sets} (h : SetsAt base w SG L S) {k : Nat} (hk : k < S.length) : ∃ v, w.cell? ⟨SG, k, none⟩ = some v ∧ SlotOf base w L v S[k] ∧ w.frozen? ⟨SG, k, none⟩ = false ∧ Has w SG := by
  obtain ⟨vs, r, hl, hs, hb⟩ := h
  exact ⟨vs[k], r.cell k (by omega), hs k (by omega) hk, r.free k, r.has⟩
/-- A new setting, of which one choice is made. -/
theorem SetsAt.step {base SG L B c k cap n : Nat} {w W2 : World} {S : Sets} {s : List Int} {x : Int} (h : SetsAt base w SG L S) (hg : Gr w W2) (hr : RowS W2 B 3 (nums s)) (hB : w.heap.size ≤ B) (hbB : base ≤ B) (hk : k < S.length) (hc : c < s.length) :
    SetsAt base (((W2.setCell ⟨SG, k, none⟩ (.slice (some ⟨B, 0, none⟩) L cap)).drewN n).setCell ⟨B, c, none⟩ (.int .i64 x)) SG L (S.set k (some (s.set c x))) := by
  obtain ⟨vs, r, hl, hs, hb⟩ := h
  have rS := r.gr hg
  have hne : B ≠ SG := RowS.apart hr rS.s (by decide)
  have r2 := ((rS.set k (.slice (some ⟨B, 0, none⟩) L cap)).drewN n).oth (b := B) (o := c) (v := .int .i64 x) hne
  refine ⟨_, r2, by rw [List.length_set, List.length_set]; exact hl, fun j h1 h2 => ?_, hb⟩
  rw [List.length_set] at h1 h2
  rw [List.getElem_set, List.getElem_set]
  by_cases e : k = j
  · rw [if_pos e, if_pos e]
    exact ⟨B, cap, rfl, hbB, ((hr.oth (Ne.symm hne)).gr ((Gr.refl _).drewN n)).iset c hc x⟩
  · rw [if_neg e, if_neg e]
    have q := hs j h1 h2
    cases eS : S[j] with
    | none => rw [eS] at q; exact q
    | some t =>
      rw [eS] at q
      obtain ⟨B', c', e', hb', r'⟩ := q
      have hlt : B' < w.heap.size := r'.has
      exact ⟨B', c', e', hb', (((r'.gr hg).oth (RowS.apart rS.s (r'.gr hg) (by decide))).gr ((Gr.refl _).drewN n)).oth (by omega)⟩
/-- Other rows of numbers, made before, stay. -/
theorem rowS_step {SG B c k n : Nat} {w W2 : World} {S : Sets} {base L C T : Nat} {us : List Value} {s : List Int} {v x : Value} (h : SetsAt base w SG L S) (hg : Gr w W2) (hr : RowS W2 B 3 (nums s)) (hB : w.heap.size ≤ B) (r : RowS w C T us) (hT : T ≠ 22) :
    RowS (((W2.setCell ⟨SG, k, none⟩ v).drewN n).setCell ⟨B, c, none⟩ x) C T us := by
  obtain ⟨vs, rs, _⟩ := h
  have hlt : C < w.heap.size := r.has
  exact (((r.gr hg).oth (RowS.apart (rs.gr hg).s (r.gr hg) (Ne.symm hT))).gr ((Gr.refl _).drewN n)).oth (by omega)
end Go.Proofs.YtenehghpmnajpaaDoor
