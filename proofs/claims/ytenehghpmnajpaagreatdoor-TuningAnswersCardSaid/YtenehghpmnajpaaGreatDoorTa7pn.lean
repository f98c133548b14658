/- Lemmas and contracts for the proof of TuningAnswers (several texts in one, printed by wip/tools/pack.py): Kz OpC GaB. -/
import Derived.Test.YtenehghpmnajpaaGreatDoorTa7pm
import Derived.Test.YtenehghpmnajpaaGreatDoorTa7pj
import Derived.Test.YtenehghpmnajpaaGreatDoorTa7pl
import Derived.Deep.Slices
import Derived.Deep.Strs
import Derived.WalkKit
import Derived.ProofKit
import Derived.SizedLaws
/-! Contracts of tuning.judge and tuning.start. -/
set_option linter.unusedVariables false
set_option linter.unusedSimpArgs false
namespace Go.Proofs.YtenehghpmnajpaaGreatDoor
open Go.RowKit
open Classical
theorem PrtOk.wide {l : List Clk} {p : List Int} (hc : cchk l = 0) (hp : PrtOk l p) : ∀ k (hk : k < p.length), Wide p[k] := fun k hk => by
  obtain ⟨nb, _, _, _⟩ := cchk_zero hc
  have hkl : k < l.length := by rw [← hp.1]; exact hk
  have h1 := hp.2 k hkl
  rw [sOf_at hk, kOf_at hkl] at h1
  have := (small_at nb hkl).2
  unfold Wide; omega
set_option maxRecDepth 100000 in
set_option maxHeartbeats 2000000 in
theorem judge_any (l : List Clk) (bs : List Bnd) (p : List Int) (al ab aS : Option Addr) (cl cb cs : Nat) (w : World) (hc : cchk l = 0) (hp : PrtOk l p) (h : SlOf 5 RClk w al l) (hb : SlOf 5 RBnd w ab bs) (hs : SlOf 1 RI w aS p) (hbo : ∀ b ∈ bs, BndOk l b) (hbl : bs.length ≤ 48) :
    Calls Tryz.prog 112 #[.slice al l.length cl, .slice ab bs.length cb, .slice aS p.length cs] w (Grows w (.tuple #[.int .i64 (judgeGo l p bs (-1)).1, .int .i64 (judgeGo l p bs (-1)).2])) := by
  have H := Lib.hid h
  have HB := Lib.hid hb
  have HS := Lib.hid hs
  have HC := Lib.hid hc
  have HP := Lib.hid hp
  have BO := Lib.hid hbo
  have hl := small_len (cchk_zero hc).1
  clear h hb hs hc hp hbo
  go_enter Tryz.func112, Tryz.ntmps112
  go_wp2_with fail
  go_loopw [7, 15] (fun s7 s15 wr => ∃ (k : Nat) (nx : Int), k ≤ bs.length ∧ s15 = .int .i64 (k : Int) ∧ s7 = .int .i64 nx ∧ judgeGo l p (bs.drop k) nx = judgeGo l p bs (-1) ∧ Gr w wr) (fun _ s15 _ => bs.length - (intOf s15).toNat)
  case atStart => exact ⟨0, -1, Nat.zero_le _, rfl, rfl, by rw [List.drop_zero], Gr.refl _⟩
  case round =>
    obtain ⟨k, nx, hk, rfl, rfl, hj, hg⟩ := hrel
    have HG := Lib.hid hg
    by_cases hlt : k < bs.length
    · obtain ⟨b, o, rfl, d0, d1, d2, d3, d4⟩ := (HB.out.gr RBnd.mono hg) k hlt
      obtain ⟨q0, q1⟩ := BO.out _ (List.getElem_mem hlt)
      have ed : bs.drop k = bs[k] :: bs.drop (k + 1) := List.drop_eq_getElem_cons hlt
      obtain ⟨x, hx⟩ : ∃ x, bs[k] = x := ⟨_, rfl⟩
      rw [hx] at d0 d1 d2 d3 d4 q0 q1 ed
      rw [ed] at hj
      obtain ⟨q, hq⟩ : ∃ q : Nat, x.clock = q := ⟨_, (Int.toNat_of_nonneg q0).symm⟩
      have hql : q < l.length := by omega
      have eq : x.clock.toNat = q := by omega
      rw [hq] at d1
      have DC := Lib.hid (fun W (hW : Gr w W) => decided_any l p al aS cl cs HC.out HP.out q hql W (clks_gr H.out hW) (HS.out.giI hW))
      have GD := Lib.hid (fun r (hr : dec l p q = .isr r) => (dec_good HC.out HP.out hql hr).2)
      have k2 : (k : Int) < bs.length := by omega
      have hh := has_of_cell d0
      simp only [judgeGo, eq] at hj
      have XC := Lib.hid hq
      obtain ⟨dq, hdq⟩ : ∃ dq, dec l p q = dq := ⟨_, rfl⟩
      rw [hdq] at hj GD DC
      have HJ := Lib.hid hj
      have BK := Lib.hid (fun W r (hr : dq = .isr r) => broken_any x r W (GD.out r hr))
      rw [hq] at BK
      clear hg ed hj q0 q1 hx hq eq hdq
      cases dq with
      | opn f =>
        have hj := HJ.out
        simp only at hj
        have HJ' := Lib.hid hj
        clear hj HJ BK GD
        by_cases hn : nx < 0
        · have bn : decide (nx < 0) = true := decide_eq_true hn
          rw [if_pos hn] at HJ'
          clear hn
          go_wp2_with fail
          refine (DC.out _ (HG.out.alloc _)).mono ?_
          rintro e w2 ⟨rfl, hg2⟩
          have G2 := Lib.hid ((HG.out.alloc _).trans hg2)
          clear hg2 d0 d1 d2 d3 d4 hh
          simp only [decV]
          go_wp2_with fail
          go_roundw
          case rel => exact ⟨k + 1, f, by omega, by go_num, rfl, HJ'.out, G2.out.alloc _⟩
          case measure => simp [intOf]; omega
        · have bn : decide (nx < 0) = false := decide_eq_false hn
          rw [if_neg hn] at HJ'
          clear hn
          go_wp2_with fail
          refine (DC.out _ (HG.out.alloc _)).mono ?_
          rintro e w2 ⟨rfl, hg2⟩
          have G2 := Lib.hid ((HG.out.alloc _).trans hg2)
          clear hg2 d0 d1 d2 d3 d4 hh
          simp only [decV]
          go_wp2_with fail
          go_roundw
          case rel => exact ⟨k + 1, nx, by omega, by go_num, rfl, HJ'.out, G2.out.alloc _⟩
          case measure => simp [intOf]; omega
      | isr r =>
        have hj := HJ.out
        simp only at hj
        have HJ' := Lib.hid hj
        have BK' := Lib.hid (fun W => BK.out W r rfl)
        clear hj HJ BK GD
        obtain ⟨BC, hBC⟩ : ∃ BC : Nat, Hid (wr.heap.size = BC) := ⟨_, Lib.hid rfl⟩
        obtain ⟨W3, hW3⟩ : ∃ W3 : World, Hid (W3 = wr.alloc (.cells #[.int .i64 x.index, .int .i64 (q : Int), .int .i64 x.low, .int .i64 x.high, .bool x.idle] 116)) := ⟨_, Lib.hid rfl⟩
        have RC : Hid (Row W3 BC 116 [.int .i64 x.index, .int .i64 (q : Int), .int .i64 x.low, .int .i64 x.high, .bool x.idle]) := Lib.hid (by rw [hW3.out, ← hBC.out]; exact Row.new wr _ _)
        have G3 : Hid (Gr w W3) := Lib.hid (by rw [hW3.out]; exact HG.out.alloc _)
        cases hb : brokB x r with
        | true =>
          rw [hb] at HJ' BK'
          clear hb
          go_wp2_with fail
          rw [← hW3.out]
          refine (DC.out _ G3.out).mono ?_
          rintro e w2 ⟨rfl, hg2⟩
          have G2 := Lib.hid (G3.out.trans hg2)
          have rc := RC.out.gr hg2
          have m0 := rc.cell 0 (by simp)
          have m1 := rc.cell 1 (by simp)
          have m2 := rc.cell 2 (by simp)
          have m3 := rc.cell 3 (by simp)
          have m4 := rc.cell 4 (by simp)
          have mh := rc.has
          simp only [List.getElem_cons_zero, List.getElem_cons_succ] at m0 m1 m2 m3 m4
          have hBC' := hBC.out
          clear hg2 d0 d1 d2 d3 d4 hh rc hW3
          simp only [decV]
          go_wp2_with fail
          refine (BK'.out _).mono ?_
          rintro e w4 ⟨rfl, hg4⟩
          have n0 := cell_gr hg4 (cell_gr ((Gr.refl w2).alloc (.cells #[.int .i64 (numR r), .int .i64 (denR r)] 93)) m0)
          have nh := has_of_cell n0
          have G4 := Lib.hid ((G2.out.alloc _).trans hg4)
          clear hg4 m0 m1 m2 m3 m4 mh
          go_wp2_with fail
          go_ret2
          refine ⟨?_, G4.out⟩
          have := HJ'.out
          simp only [if_true] at this
          rw [← this]; rfl
        | false =>
          rw [hb] at HJ' BK'
          clear hb
          go_wp2_with fail
          rw [← hW3.out]
          refine (DC.out _ G3.out).mono ?_
          rintro e w2 ⟨rfl, hg2⟩
          have G2 := Lib.hid (G3.out.trans hg2)
          have rc := RC.out.gr hg2
          have m0 := rc.cell 0 (by simp)
          have m1 := rc.cell 1 (by simp)
          have m2 := rc.cell 2 (by simp)
          have m3 := rc.cell 3 (by simp)
          have m4 := rc.cell 4 (by simp)
          have mh := rc.has
          simp only [List.getElem_cons_zero, List.getElem_cons_succ] at m0 m1 m2 m3 m4
          have hBC' := hBC.out
          clear hg2 d0 d1 d2 d3 d4 hh rc hW3
          simp only [decV]
          go_wp2_with fail
          refine (BK'.out _).mono ?_
          rintro e w4 ⟨rfl, hg4⟩
          have G4 := Lib.hid ((G2.out.alloc _).trans hg4)
          clear hg4 m0 m1 m2 m3 m4 mh
          go_wp2_with fail
          go_roundw
          case rel =>
            refine ⟨k + 1, nx, by omega, by go_num, rfl, ?_, G4.out⟩
            have := HJ'.out
            simpa using this
          case measure => simp [intOf]; omega
    · have hk' : k = bs.length := by omega
      subst hk'
      rw [List.drop_length] at hj
      have e : judgeGo l p bs (-1) = (-1, nx) := by rw [← hj]; rfl
      have E := Lib.hid e
      clear hj e
      go_wp2_with fail
      go_ret2
      exact ⟨by rw [E.out]; rfl, hg⟩
end Go.Proofs.YtenehghpmnajpaaGreatDoor
/-! Contract of tuning.start. -/
set_option linter.unusedVariables false
set_option linter.unusedSimpArgs false
namespace Go.Proofs.YtenehghpmnajpaaGreatDoor
open Go.RowKit
open Classical
def startK (l : List Clk) (k : Nat) : List Int := startS (l.take k) ++ List.replicate (l.length - k) 0
theorem startK_len (l : List Clk) (k : Nat) (h : k ≤ l.length) : (startK l k).length = l.length := by simp [startK, startS]; omega
theorem startK_step (l : List Clk) (k : Nat) (h : k < l.length) : startK l (k + 1) = (startK l k).set k (if 1 < l[k].choices.length then -1 else 0) := by
  have e1 : l.take (k + 1) = l.take k ++ [l[k]] := take_snoc_get l k h
  have e2 : l.length - k = (l.length - (k + 1)) + 1 := by omega
  have e3 : (startS (l.take k)).length = k := by simp [startS]; omega
  unfold startK
  rw [List.set_append_right _ _ (by omega), e3, Nat.sub_self, e2, List.replicate_succ, List.set_cons_zero, e1]
  simp only [startS, List.map_append, List.map_cons, List.map_nil, List.append_assoc, List.cons_append, List.nil_append]
set_option maxRecDepth 100000 in
set_option maxHeartbeats 2000000 in
theorem start_any (l : List Clk) (al : Option Addr) (cl : Nat) (w : World) (hc : cchk l = 0) (h : SlOf 5 RClk w al l) :
    Calls Tryz.prog 69 #[.slice al l.length cl] w fun e w' => ∃ B, e = .returned (.slice (some ⟨B, 0, none⟩) l.length l.length) ∧ NewI w (startS l) B w' := by
  have H := Lib.hid h
  have hl := small_len (cchk_zero hc).1
  have NB := Lib.hid (cchk_zero hc).1
  have hmk := run_make_row' (P := Tryz.prog) 22 3 (.int .i64 0) 8 Tryz.underlying22 infoInt rfl .i64 .i64 l.length (by omega) (by omega)
  clear h hc
  go_enter Tryz.func69, Tryz.ntmps69
  go_wp2_with fail
  obtain ⟨W2, hW2⟩ : ∃ W2 : World, Hid (W2 = w.alloc (.cells (madeCells #[.int .i64 0] l.length) 3)) := ⟨_, Lib.hid rfl⟩
  rw [← hW2.out]
  obtain ⟨SB, hSB⟩ : ∃ SB : Nat, Hid (w.heap.size = SB) := ⟨_, Lib.hid rfl⟩
  rw [hSB.out]
  have R2 : Hid (Row W2 SB 3 (nums (startK l 0))) := Lib.hid (by
    rw [hW2.out, ← hSB.out]
    have := Row.new w (madeCells #[.int .i64 0] l.length) 3
    have e : (madeCells #[Value.int .i64 0] l.length).toList = nums (startK l 0) := by
      rw [made_zero]; simp [startK, startS, nums]
    rwa [e] at this)
  have G2 : Hid (Gr w W2) := Lib.hid (by rw [hW2.out]; exact (Gr.refl _).alloc _)
  have sb := Lib.hid (show w.heap.size ≤ SB by rw [hSB.out]; exact Nat.le_refl _)
  clear hW2
  go_loopw [11] (fun s11 wr => ∃ k : Nat, k ≤ l.length ∧ s11 = .int .i64 (k : Int) ∧ Row wr SB 3 (nums (startK l k)) ∧ Gr w wr) (fun s11 _ => l.length - (intOf s11).toNat)
  case atStart => exact ⟨0, Nat.zero_le _, rfl, R2.out, G2.out⟩
  case round =>
    obtain ⟨k, hk, rfl, hr, hg⟩ := hrel
    have HR := Lib.hid hr
    have HG := Lib.hid hg
    by_cases hlt : k < l.length
    · obtain ⟨b, o, rfl, ⟨d0, _⟩, ⟨ap, cp, d1, _⟩, ⟨ac, cc, d2, _, d2f, _⟩, ⟨d3, _⟩, ⟨d4, _⟩⟩ := clks_gr H.out hg k hlt
      have k2 : (k : Int) < l.length := by omega
      have hh := has_of_cell d0
      have SS := Lib.hid (startK_step l k hlt)
      have e0 := hr.iat k (by rw [startK_len l k hk]; exact hlt)
      have f0 := hr.free k
      have rh := hr.has
      by_cases hb : 1 < l[k].choices.length
      · have b1 : decide ((1 : Int) < (l[k].choices.length : Int)) = true := decide_eq_true (by omega)
        rw [if_pos hb] at SS
        clear hb hr hg
        go_wp2_with fail
        go_roundw
        case rel =>
          refine ⟨k + 1, by omega, by go_num, ?_, (HG.out.setc sb.out).alloc _⟩
          rw [SS.out]
          exact (HR.out.iset k (-1)).alloc _
        case measure => simp [intOf]; omega
      · have b1 : decide ((1 : Int) < (l[k].choices.length : Int)) = false := decide_eq_false (by omega)
        rw [if_neg hb] at SS
        clear hb hr hg
        go_wp2_with fail
        go_roundw
        case rel =>
          refine ⟨k + 1, by omega, by go_num, ?_, HG.out.alloc _⟩
          rw [SS.out]
          have e : (startK l k).set k 0 = startK l k := by
            refine set_same _ _ (by rw [startK_len l k hk]; exact hlt) _ ?_
            have : (startS (l.take k)).length = k := by simp [startS]; omega
            simp only [startK]
            rw [List.getElem_append_right (by omega)]
            simp
          rw [e]
          exact HR.out.alloc _
        case measure => simp [intOf]; omega
    · have hk' : k = l.length := by omega
      subst hk'
      have e : startK l l.length = startS l := by simp [startK]
      rw [e] at hr
      clear HR
      go_wp2_with fail
      go_ret
      exact ⟨SB, rfl, hr.s, sb.out, hg⟩
end Go.Proofs.YtenehghpmnajpaaGreatDoor
/-! Contracts of the reference's breaks and begin. -/
set_option linter.unusedVariables false
set_option linter.unusedSimpArgs false
namespace Go.Proofs.YtenehghpmnajpaaGreatDoor
open Go.RowKit
open Classical
set_option maxRecDepth 100000 in
set_option maxHeartbeats 4000000 in
theorem breaks_any (l : List Clk) (ms : List Lmt) (p : List Int) (x : Int) (al am aS : Option Addr) (cl cm cs : Nat) (w : World) (hc : cchk l = 0) (hp : PrtOk l p) (h : SlOf 5 RClk w al l) (hm : SlOf 3 RLmt w am ms) (hs : SlOf 1 RI w aS p) (hlm : LsOk l ms) (h0 : 0 ≤ x) (hx : x ≤ 9223372036854775807) :
    Calls Tryz.prog 76 #[.slice al l.length cl, .slice am ms.length cm, .slice aS p.length cs, .int .i64 x] w (Grows w (.bool (leafS l ms p x))) := by
  have hl := small_len (cchk_zero hc).1
  have hml := hlm.1
  have H := Lib.hid h
  have HS := Lib.hid hs
  have lp : p.length = l.length := hp.1
  have nh := Lib.hid (show True from trivial)
  rw [lp]
  have RD := Lib.hid (fun (k : Nat) (hk : k < l.length) W (hW : Gr w W) => refDecided_any l p al aS cl cs hc hp k hk W (clks_gr h hW) (hs.giI hW))
  rw [lp] at RD
  have RV : Hid (∀ k, k < l.length → (∃ f, dec l p k = .opn f ∧ decR l p k = decRV 0 0 false false) ∨ (∃ r n d, dec l p k = .isr r ∧ decR l p k = decRV n d r.isSome true ∧ (∀ y, r = some y → y = (n, d)) ∧ validB n d = true)) := Lib.hid (fun k hk => by
    cases e : dec l p k with
    | opn f => exact .inl ⟨f, rfl, decR_opn e⟩
    | isr r =>
      obtain ⟨n, d, e2, h3⟩ := (dec_openG hc hp k hk).2 r e
      exact .inr ⟨r, n, d, rfl, decR_isr e e2, h3, ((dec_good hc (openG_ok hc hp) hk e2).2 n d rfl).1⟩)
  by_cases h1 : x < ms.length
  · obtain ⟨j, hj⟩ : ∃ j : Nat, x = j := ⟨_, (Int.toNat_of_nonneg h0).symm⟩
    subst hj
    have hjl : j < ms.length := by omega
    have b1 : decide ((j : Int) < ms.length) = true := decide_eq_true h1
    obtain ⟨bm, om, eam, ⟨d0, _⟩, ⟨d1, y1⟩, ⟨d2, y2⟩⟩ := hm j hjl
    subst eam
    obtain ⟨q0, q1, _⟩ := hlm.2 j hjl
    obtain ⟨q, hq⟩ : ∃ q : Nat, ms[j].clock = q := ⟨_, (Int.toNat_of_nonneg q0).symm⟩
    have hql : q < l.length := by omega
    have V := Lib.hid (leafS_lim (l := l) (p := p) hjl)
    have eq : ms[j].clock.toNat = q := by omega
    rw [eq] at V
    rw [hq] at d0
    have hh := has_of_cell d0
    have RDq := Lib.hid (RD.out q hql)
    obtain ⟨lo, hlo⟩ : ∃ lo, ms[j].low = lo := ⟨_, rfl⟩
    obtain ⟨hi, hhi⟩ : ∃ hi, ms[j].high = hi := ⟨_, rfl⟩
    have LO := Lib.hid hlo
    have HI := Lib.hid hhi
    rw [hlo] at d1
    rw [hhi] at d2
    obtain ⟨BM, hBM⟩ : ∃ BM : Nat, Hid (w.heap.size = BM) := ⟨_, Lib.hid rfl⟩
    obtain ⟨W3, hW3⟩ : ∃ W3 : World, Hid (W3 = w.alloc (.cells #[.int .i64 (q : Int), .int .i64 lo, .int .i64 hi] 35)) := ⟨_, Lib.hid rfl⟩
    have R3 : Hid (Row W3 BM 35 [.int .i64 (q : Int), .int .i64 lo, .int .i64 hi]) := Lib.hid (by rw [hW3.out, ← hBM.out]; exact Row.new w _ _)
    have G3 : Hid (Gr w W3) := Lib.hid (by rw [hW3.out]; exact (Gr.refl _).alloc _)
    rcases RV.out q hql with ⟨f, e1, e2⟩ | ⟨r, n, d, e1, e2, e3, e4⟩
    · have VF : Hid (leafS l ms p (j : Int) = false) := Lib.hid (by rw [V.out, e1]; rfl)
      rw [e2] at RDq
      simp only [decRV] at RDq
      clear hm h hs hc hp hlm RD RV e1 e2 V y1 y2 q0 q1 hq eq hlo hhi h1 h0 hx
      rw [VF.out]
      go_enter Tryz.func76, Tryz.ntmps76
      go_wp2_with fail
      rw [← hW3.out, hBM.out]
      refine (RDq.out _ G3.out).mono ?_
      rintro e w5 ⟨rfl, hg5⟩
      have m0 := (R3.out.gr hg5).cell 0 (by simp)
      have mh := (R3.out.gr hg5).has
      simp only [List.getElem_cons_zero] at m0
      have G5 := Lib.hid (G3.out.trans hg5)
      clear hg5
      go_wp2_with fail
      go_ret
      exact ⟨rfl, by repeat (first | with_reducible exact G5.out | with_reducible refine Gr.alloc _ ?_ | with_reducible refine Gr.xt _ _ ?_)⟩
    · have VF : Hid (leafS l ms p (j : Int) = !okIn r lo hi) := Lib.hid (by rw [V.out, e1, leafD, LO.out, HI.out])
      rw [e2] at RDq
      simp only [decRV] at RDq
      obtain ⟨v1, v2, v3, v4, v5⟩ := valid_parts e4
      have WI := Lib.hid (fun W => refWithin_any n d lo hi W (by omega) (by omega) (by omega) (by omega))
      have E3 := Lib.hid e3
      clear hm h hs hc hp hlm RD RV e1 e2 V q0 q1 hq eq hlo hhi h1 h0 hx e3 e4 v1 v2 v3 v4 v5 y1 y2
      rw [VF.out]
      go_enter Tryz.func76, Tryz.ntmps76
      go_wp2_with fail
      rw [← hW3.out, hBM.out]
      refine (RDq.out _ G3.out).mono ?_
      rintro e w5 ⟨rfl, hg5⟩
      have m0 := (R3.out.gr hg5).cell 0 (by simp)
      have m1 := (R3.out.gr hg5).cell 1 (by simp)
      have m2 := (R3.out.gr hg5).cell 2 (by simp)
      have mh := (R3.out.gr hg5).has
      simp only [List.getElem_cons_zero, List.getElem_cons_succ] at m0 m1 m2
      have G5 := Lib.hid (G3.out.trans hg5)
      clear hg5
      cases r with
      | none =>
        simp only [Option.isSome_none]
        go_wp2_with fail
        go_ret
        exact ⟨rfl, by repeat (first | with_reducible exact G5.out | with_reducible refine Gr.alloc _ ?_ | with_reducible refine Gr.xt _ _ ?_)⟩
      | some y =>
        have ey := E3.out y rfl
        subst ey
        simp only [Option.isSome_some, okIn]
        go_wp2_with fail
        refine (WI.out _).mono ?_
        rintro e w6 ⟨rfl, hg6⟩
        go_wp2_with fail
        go_ret
        exact ⟨rfl, (G5.out.alloc _).trans hg6⟩
  · have b1 : decide (x < (ms.length : Int)) = false := decide_eq_false h1
    have w1 : IntKind.i64.wrap (x - (ms.length : Int)) = x - (ms.length : Int) := by rw [IntKind.wrap_i64]; omega
    by_cases h2 : (l.length : Int) ≤ x - ms.length
    · have VF := Lib.hid (leafS_out (l := l) (ms := ms) (p := p) (x := x) (by omega))
      have b2 : decide ((l.length : Int) ≤ x - (ms.length : Int)) = true := decide_eq_true h2
      clear hm h hs hc hp hlm RD RV h1 h0 hx h2
      rw [VF.out]
      go_enter Tryz.func76, Tryz.ntmps76
      go_wp2_with fail
      go_ret
      exact ⟨rfl, Gr.refl _⟩
    · have b2 : decide ((l.length : Int) ≤ x - (ms.length : Int)) = false := decide_eq_false h2
      obtain ⟨k, hk⟩ : ∃ k : Nat, x - ms.length = k := ⟨_, (Int.toNat_of_nonneg (by omega)).symm⟩
      have hkl : k < l.length := by omega
      have ex : x = (ms.length : Int) + (k : Int) := by omega
      have V := Lib.hid (leafS_own (ms := ms) (p := p) hkl)
      rw [← ex] at V
      obtain ⟨bc, oc, eal, ⟨c0, _⟩, ⟨ap, cp, c1, _⟩, ⟨ac, cc, c2, _⟩, ⟨c3, y3⟩, ⟨c4, y4⟩⟩ := h k hkl
      subst eal
      have hh := has_of_cell c3
      have RDq := Lib.hid (RD.out k hkl)
      obtain ⟨lo, hlo⟩ : ∃ lo, l[k].low = lo := ⟨_, rfl⟩
      obtain ⟨hi, hhi⟩ : ∃ hi, l[k].high = hi := ⟨_, rfl⟩
      have HI := Lib.hid hhi
      have LO := Lib.hid hlo
      rw [hlo] at c3
      rw [hhi] at c4
      have k2 : (k : Int) < l.length := by omega
      have C3 := Lib.hid c3
      have C4 := Lib.hid c4
      rcases RV.out k hkl with ⟨f, e1, e2⟩ | ⟨r, n, d, e1, e2, e3, e4⟩
      · have VF : Hid (leafS l ms p x = false) := Lib.hid (by rw [V.out, e1]; rfl)
        rw [e2] at RDq
        simp only [decRV] at RDq
        rw [hk] at w1 b2
        clear hm h hs hc hp hlm RD RV e1 e2 V y3 y4 hlo hhi h1 h0 hx h2 ex
        rw [VF.out]
        go_enter Tryz.func76, Tryz.ntmps76
        go_wp2_with fail
        refine (RDq.out _ (Gr.refl _)).mono ?_
        rintro e w5 ⟨rfl, hg5⟩
        have d3 := cell_gr hg5 C3.out
        have d4 := cell_gr hg5 C4.out
        have dh := has_of_cell d3
        have G5 := Lib.hid hg5
        clear hg5 c0 c1 c2 c3 c4 hh
        go_wp2_with fail
        refine wp_region_grows (by kernel_rfl) (by kernel_rfl) ?_
        repeat (go_big_quiet_step (fail))
        refine wpQuiet_nil ?_
        rintro _ ⟨⟨O, dd⟩, rfl⟩
        go_wp2_with fail
        go_ret
        exact ⟨rfl, by repeat (first | with_reducible exact G5.out | with_reducible refine Gr.alloc _ ?_ | with_reducible refine Gr.xt _ _ ?_ | with_reducible refine Gr.drew ?_ | with_reducible refine Gr.drewN _ ?_)⟩
      · have VF : Hid (leafS l ms p x = leafO (.isr r) l[k]) := Lib.hid (by rw [V.out, e1])
        rw [e2] at RDq
        simp only [decRV] at RDq
        obtain ⟨v1, v2, v3, v4, v5⟩ := valid_parts e4
        have WI := Lib.hid (fun W => refWithin_any n d lo hi W (by omega) (by omega) (by omega) (by omega))
        have E3 := Lib.hid e3
        rw [hk] at w1 b2
        have HHI := Lib.hid hhi
        have HLO := Lib.hid hlo
        clear hm h hs hc hp hlm RD RV e1 e2 V y3 y4 hlo hhi h1 h0 hx h2 ex e3 e4 v1 v2 v3 v4 v5
        rw [VF.out]
        cases r with
        | none =>
          simp only [leafO, Option.isSome_none] at RDq ⊢
          go_enter Tryz.func76, Tryz.ntmps76
          go_wp2_with fail
          refine (RDq.out _ (Gr.refl _)).mono ?_
          rintro e w5 ⟨rfl, hg5⟩
          have d3 := cell_gr hg5 C3.out
          have d4 := cell_gr hg5 C4.out
          have dh := has_of_cell d3
          have G5 := Lib.hid hg5
          clear hg5 c0 c1 c2 c3 c4 hh
          go_wp2_with fail
          refine wp_region_grows (by kernel_rfl) (by kernel_rfl) ?_
          repeat (go_big_quiet_step (fail))
          refine wpQuiet_nil ?_
          rintro _ ⟨⟨O, dd⟩, rfl⟩
          go_wp2_with fail
          go_ret
          exact ⟨rfl, by repeat (first | with_reducible exact G5.out | with_reducible refine Gr.alloc _ ?_ | with_reducible refine Gr.xt _ _ ?_ | with_reducible refine Gr.drew ?_ | with_reducible refine Gr.drewN _ ?_)⟩
        | some y =>
          have ey := E3.out y rfl
          subst ey
          simp only [leafO, Option.isSome_some] at RDq ⊢
          by_cases hz : hi = 0
          · have bz : (hi != 0) = false := by simp [hz]
            have VZ : Hid ((l[k].high != 0 && !withinB n d l[k].low l[k].high) = false) := Lib.hid (by rw [HHI.out, hz]; rfl)
            rw [VZ.out]
            clear hz
            go_enter Tryz.func76, Tryz.ntmps76
            go_wp2_with fail
            refine (RDq.out _ (Gr.refl _)).mono ?_
            rintro e w5 ⟨rfl, hg5⟩
            have d3 := cell_gr hg5 C3.out
            have d4 := cell_gr hg5 C4.out
            have dh := has_of_cell d3
            have G5 := Lib.hid hg5
            clear hg5 c0 c1 c2 c3 c4 hh
            go_wp2_with fail
            refine wp_region_grows (by kernel_rfl) (by kernel_rfl) ?_
            repeat (go_big_quiet_step (fail))
            refine wpQuiet_nil ?_
            rintro _ ⟨⟨O, dd⟩, rfl⟩
            go_wp2_with fail
            go_ret
            exact ⟨rfl, by repeat (first | with_reducible exact G5.out | with_reducible refine Gr.alloc _ ?_ | with_reducible refine Gr.xt _ _ ?_ | with_reducible refine Gr.drew ?_ | with_reducible refine Gr.drewN _ ?_)⟩
          · have bz : (hi != 0) = true := by simp [hz]
            have VZ : Hid ((l[k].high != 0 && !withinB n d l[k].low l[k].high) = !withinB n d lo hi) := Lib.hid (by rw [HHI.out, HLO.out, bz]; simp)
            rw [VZ.out]
            clear hz
            go_enter Tryz.func76, Tryz.ntmps76
            go_wp2_with fail
            refine (RDq.out _ (Gr.refl _)).mono ?_
            rintro e w5 ⟨rfl, hg5⟩
            have d3 := cell_gr hg5 C3.out
            have d4 := cell_gr hg5 C4.out
            have dh := has_of_cell d3
            have G5 := Lib.hid hg5
            clear hg5 c0 c1 c2 c3 c4 hh
            go_wp2_with fail
            refine wp_region_grows (by kernel_rfl) (by kernel_rfl) ?_
            repeat (go_big_quiet_step (first | (go_at_call 118; exact calls_grows (WI.out _))))
            refine wpQuiet_nil ?_
            rintro _ ⟨⟨O, dd⟩, rfl⟩
            go_wp2_with fail
            go_ret
            exact ⟨rfl, by repeat (first | with_reducible exact G5.out | with_reducible refine Gr.alloc _ ?_ | with_reducible refine Gr.xt _ _ ?_ | with_reducible refine Gr.drew ?_ | with_reducible refine Gr.drewN _ ?_)⟩
end Go.Proofs.YtenehghpmnajpaaGreatDoor
/-! Lists of settings in memory, as the reference's check of branches keeps them; branches that are read. -/
set_option linter.unusedVariables false
set_option linter.unusedSimpArgs false
namespace Go.Proofs.YtenehghpmnajpaaGreatDoor
open Go.RowKit
open Classical
def RBrn (w : World) (b o : Nat) (x : Brn) : Prop := RI w b o x.limit ∧ RI w b (o + 1) x.clock ∧ RSl 1 RI w b (o + 2) x.next
theorem RBrn.mono : Mono RBrn := fun _ _ _ _ _ hg ⟨h0, h1, h2⟩ => ⟨RI.mono _ _ _ _ _ hg h0, RI.mono _ _ _ _ _ hg h1, RSl.mono RI.mono _ _ _ _ _ hg h2⟩
def SlotOf (base : Nat) (w : World) (L : Nat) (v : Value) (o : Option (List Int)) : Prop := match o with | none => v = .slice none 0 0 | some s => ∃ B c, v = .slice (some ⟨B, 0, none⟩) L c ∧ base ≤ B ∧ RowS w B 3 (nums s)
def SetsAt (base : Nat) (w : World) (SG L : Nat) (S : Sets) : Prop := ∃ vs, Row w SG 22 vs ∧ vs.length = S.length ∧ (∀ k (h : k < vs.length) (h' : k < S.length), SlotOf base w L vs[k] S[k]) ∧ base ≤ SG
theorem SlotOf.gr {base L : Nat} {w w' : World} {v : Value} {o : Option (List Int)} (h : SlotOf base w L v o) (hg : Gr w w') : SlotOf base w' L v o := by
  cases o with
  | none => exact h
  | some s => obtain ⟨B, c, e, hb, r⟩ := h; exact ⟨B, c, e, hb, r.gr hg⟩
theorem SetsAt.gr {base SG L : Nat} {w w' : World} {S : Sets} (h : SetsAt base w SG L S) (hg : Gr w w') : SetsAt base w' SG L S := by
  obtain ⟨vs, r, hl, hs, hb⟩ := h
  exact ⟨vs, r.gr hg, hl, fun k h h' => (hs k h h').gr hg, hb⟩
theorem SetsAt.get {base SG L : Nat} {w : World} {S : Sets} (h : SetsAt base w SG L S) {k : Nat} (hk : k < S.length) : ∃ v, w.cell? ⟨SG, k, none⟩ = some v ∧ SlotOf base w L v S[k] ∧ w.frozen? ⟨SG, k, none⟩ = false ∧ Has w SG := by
  obtain ⟨vs, r, hl, hs, hb⟩ := h
  exact ⟨vs[k], r.cell k (by omega), hs k (by omega) hk, r.free k, r.has⟩
/-- A new setting, of which one choice is made. -/
theorem SetsAt.step {base SG L B c k cap n : Nat} {w W2 : World} {S : Sets} {s : List Int} {x : Int} (h : SetsAt base w SG L S) (hg : Gr w W2) (hr : RowS W2 B 3 (nums s)) (hB : w.heap.size ≤ B) (hbB : base ≤ B) (hk : k < S.length) (hc : c < s.length) :
    SetsAt base (((W2.setCell ⟨SG, k, none⟩ (.slice (some ⟨B, 0, none⟩) L cap)).drewN n).setCell ⟨B, c, none⟩ (.int .i64 x)) SG L (S.set k (some (s.set c x))) := by
  obtain ⟨vs, r, hl, hs, hb⟩ := h
  have rS := r.gr hg
  have hne : B ≠ SG := RowS.apart hr rS.s (by decide)
  have r2 := ((rS.set k (.slice (some ⟨B, 0, none⟩) L cap)).drewN n).oth (b := B) (o := c) (v := .int .i64 x) hne
  refine ⟨_, r2, by rw [List.length_set, List.length_set]; exact hl, fun j h1 h2 => ?_, hb⟩
  rw [List.length_set] at h1 h2
  rw [List.getElem_set, List.getElem_set]
  by_cases e : k = j
  · rw [if_pos e, if_pos e]
    exact ⟨B, cap, rfl, hbB, ((hr.oth (Ne.symm hne)).gr ((Gr.refl _).drewN n)).iset c hc x⟩
  · rw [if_neg e, if_neg e]
    have q := hs j h1 h2
    cases eS : S[j] with
    | none => rw [eS] at q; exact q
    | some t =>
      rw [eS] at q
      obtain ⟨B', c', e', hb', r'⟩ := q
      have hlt : B' < w.heap.size := r'.has
      exact ⟨B', c', e', hb', (((r'.gr hg).oth (RowS.apart rS.s (r'.gr hg) (by decide))).gr ((Gr.refl _).drewN n)).oth (by omega)⟩
/-- Other rows of numbers, made before, stay. -/
theorem rowS_step {SG B c k n : Nat} {w W2 : World} {S : Sets} {base L C T : Nat} {us : List Value} {s : List Int} {v x : Value} (h : SetsAt base w SG L S) (hg : Gr w W2) (hr : RowS W2 B 3 (nums s)) (hB : w.heap.size ≤ B) (r : RowS w C T us) (hT : T ≠ 22) :
    RowS (((W2.setCell ⟨SG, k, none⟩ v).drewN n).setCell ⟨B, c, none⟩ x) C T us := by
  obtain ⟨vs, rs, _⟩ := h
  have hlt : C < w.heap.size := r.has
  exact (((r.gr hg).oth (RowS.apart (rs.gr hg).s (r.gr hg) (Ne.symm hT))).gr ((Gr.refl _).drewN n)).oth (by omega)
end Go.Proofs.YtenehghpmnajpaaGreatDoor

set_option linter.unusedVariables false
set_option linter.unusedSimpArgs false
namespace Go.Proofs.YtenehghpmnajpaaGreatDoor
open Go.RowKit Go.ChangeShapes Go.WideShapes
theorem add_of {a : Addr} {w : World} {v : Value} {n : Nat} (h0 : a = ⟨a.block, a.off, none⟩) (h : w.cell? (a.add n) = some v) : w.cell? ⟨a.block, a.off + n, none⟩ = some v := by
  simp only [Addr.add] at h
  split at h
  · rename_i e; subst e; rw [h0] at h; simpa using h
  · exact h
/-- No list that is met is longer than the form reads. -/
def Light {H : Type} (t : TypeId) (d : DataW H) : Prop := ∀ n ∈ d.weights Tryz.prog t, n ≤ reachBytes
theorem all_light {H : Type} {e : TypeId} : ∀ {l : List (DataW H)} {d : DataW H}, d ∈ l → ∀ n ∈ d.weights Tryz.prog e, n ∈ DataW.weightsAll Tryz.prog e l
  | d' :: r, d, hd, n, hn => by
    simp only [DataW.weightsAll, List.mem_append]
    rcases List.mem_cons.1 hd with rfl | h
    · exact Or.inl hn
    · exact Or.inr (all_light h n hn)
theorem Light.elem {H : Type} {t e : TypeId} {elems spare : List (DataW H)} (h : Light t (DataW.slice elems spare)) (hu : Tryz.prog.underlying t = some (.slice e)) : (elems.length + spare.length) * Tryz.prog.bytesOf e ≤ reachBytes ∧ ∀ d ∈ elems, Light e d := by
  refine ⟨h _ (by simp [DataW.weights, hu]), fun d hd n hn => h n ?_⟩
  simp only [DataW.weights, hu, List.mem_cons, List.mem_append]
  exact Or.inr (Or.inl (all_light hd n hn))
theorem Light.part {H : Type} {t : TypeId} {fs : Array Field} {parts : List (DataW H)} (h : Light t (DataW.agg parts)) (hu : Tryz.prog.underlying t = some (.struct fs)) {j : Nat} {u : TypeId} {d : DataW H} (ht : (fs.toList.map (·.type))[j]? = some u) (hd : parts[j]? = some d) : Light u d := fun n hn => h n (by
  simp only [DataW.weights, hu]
  exact DataW.weights_mem_each ht hd n hn)
theorem reach_eq : reachBytes = 140737488351232 := rfl
-- A slice of whole numbers.
set_option maxRecDepth 100000 in
theorem open_nums {H : Type} {enc : TypeId × Value → H} {W : World} {fuel : Nat} {cs : List Value} {x : DataW H × List MemPlace} (h : DataW.trod enc Tryz.prog W 0 (fun _ => true) true fuel 22 cs = some x) (hl : Light 22 x.1) :
    ∃ (a : Option Addr) (xs : List Int) (cap : Nat), cs = [.slice a xs.length cap] ∧ xs.length ≤ cap ∧ Fit xs.length ∧ SlOf 1 RI W a xs := by
  rcases open_ints Tryz.underlying22 Tryz.underlying3 (by kernel_rfl) h with ⟨rfl, -⟩ | ⟨a, len, cap, zs, rfl, hb, hle, hm, hz, rfl, hcell, hwz⟩
  · exact ⟨none, [], 0, rfl, Nat.le_refl _, by unfold Fit; simp, SlOf.nil _ _ _ _⟩
  · have hzc : zs.length = cap := by simpa using hz
    have ht : (zs.take len).length = len := by rw [List.length_take]; omega
    refine ⟨some a, zs.take len, cap, by rw [ht], by omega, ?_, fun k hk => ?_⟩
    · have := (hl.elem Tryz.underlying22).1
      rw [reach_eq, show Tryz.prog.bytesOf 3 = 8 by kernel_rfl] at this
      simp [lits] at this
      unfold Fit; omega
    · have hk' : k < len := by omega
      have q := hcell 0 (by omega)
      have z : a = ⟨a.block, a.off, none⟩ := addr_of_cell (by simpa [Addr.add] using q)
      have c := hcell k (by omega)
      refine ⟨a.block, a.off, by rw [← z], add_of z (n := k * 1) ?_, ?_⟩
      · rw [Nat.mul_one, c, List.getElem_take, List.getD_eq_getElem?_getD, List.getElem?_eq_getElem (by omega)]; rfl
      · rw [List.getElem_take]
        have := bounds_i64 (hwz _ (List.getElem_mem (show k < zs.length by omega)))
        unfold Wide; omega
theorem open_num {H : Type} {enc : TypeId × Value → H} {W : World} {n : Nat} {v : Value} {y : DataW H × List MemPlace} (h : DataW.trod enc Tryz.prog W 0 (fun _ => true) true n 3 [v] = some y) : ∃ x, v = .int .i64 x ∧ Wide x := by
  obtain ⟨n0, e0, -, w0⟩ := DataW.trod_int Tryz.underlying3 h
  have b0 := bounds_i64 w0
  exact ⟨n0, by simpa using e0, by unfold Wide; omega⟩
/-- The cells of a clock. -/
def ClkIn (W : World) (c : Clk) (cs : List Value) : Prop := ∃ ap cp ac cc, cs = [.int .i64 c.kind, .slice ap c.parents.length cp, .slice ac c.choices.length cc, .int .i64 c.low, .int .i64 c.high] ∧ Wide c.kind ∧ Wide c.low ∧ Wide c.high ∧
  c.parents.length ≤ cp ∧ Fit c.parents.length ∧ SlOf 1 RI W ap c.parents ∧ c.choices.length ≤ cc ∧ Fit c.choices.length ∧ SlOf 1 RI W ac c.choices
set_option maxRecDepth 100000 in
theorem open_clk {H : Type} {enc : TypeId × Value → H} {W : World} {n : Nat} {cs : List Value} {x : DataW H × List MemPlace} (h : DataW.trod enc Tryz.prog W 0 (fun _ => true) true n 79 cs = some x) (hl : Light 79 x.1) :
    ∃ c : Clk, ClkIn W c cs := by
  obtain ⟨xs, m, _, rfl, hlen, hxs, hf⟩ := DataW.trod_struct Tryz.underlying79 h
  have hl5 : cs.length = 5 := hlen
  match cs, hl5, xs, hxs with
  | [v0, v1, v2, v3, v4], _, [y0, y1, y2, y3, y4], _ =>
    have g0 : DataW.trod enc Tryz.prog W 0 (fun _ => true) true m 3 [v0] = some y0 := hf 0 _ rfl
    have g1 : DataW.trod enc Tryz.prog W 0 (fun _ => true) true m 22 [v1] = some y1 := hf 1 _ rfl
    have g2 : DataW.trod enc Tryz.prog W 0 (fun _ => true) true m 22 [v2] = some y2 := hf 2 _ rfl
    have g3 : DataW.trod enc Tryz.prog W 0 (fun _ => true) true m 3 [v3] = some y3 := hf 3 _ rfl
    have g4 : DataW.trod enc Tryz.prog W 0 (fun _ => true) true m 3 [v4] = some y4 := hf 4 _ rfl
    have l1 : Light 22 y1.1 := Light.part (j := 1) hl Tryz.underlying79 rfl rfl
    have l2 : Light 22 y2.1 := Light.part (j := 2) hl Tryz.underlying79 rfl rfl
    obtain ⟨k, rfl, w0⟩ := open_num g0
    obtain ⟨ap, ps, cp, e1, p1, p2, p3⟩ := open_nums g1 l1
    obtain ⟨ac, cs', cc, e2, q1, q2, q3⟩ := open_nums g2 l2
    obtain ⟨lo, rfl, w3⟩ := open_num g3
    obtain ⟨hi, rfl, w4⟩ := open_num g4
    injection e1 with e1 _
    injection e2 with e2 _
    subst e1; subst e2
    exact ⟨⟨k, ps, cs', lo, hi⟩, ap, cp, ac, cc, rfl, w0, w3, w4, p1, p2, p3, q1, q2, q3⟩
instance : Inhabited Clk := ⟨⟨0, [], [], 0, 0⟩⟩
set_option maxRecDepth 100000 in
theorem open_clks {H : Type} {enc : TypeId × Value → H} {W : World} {fuel : Nat} {cs : List Value} {x : DataW H × List MemPlace} (h : DataW.trod enc Tryz.prog W 0 (fun _ => true) true fuel 23 cs = some x) (hl : Light 23 x.1) :
    ∃ (a : Option Addr) (raw : List Clk) (cap : Nat), cs = [.slice a raw.length cap] ∧ raw.length ≤ cap ∧ Fit raw.length ∧ SlOf 5 RClk W a raw := by
  rcases Go.Deep.open_slice Tryz.underlying23 h with ⟨rfl, -⟩ | ⟨a, len, cap, m, n, D, Pl, rfl, hb, hle, hm, hmm, rfl, hx⟩
  · exact ⟨none, [], 0, rfl, Nat.le_refl _, by unfold Fit; simp, fun k hk => absurd hk (by simp)⟩
  · have hmc : m = cap := by simpa using hmm
    obtain ⟨hsz, hel⟩ := hl.elem Tryz.underlying23
    have each : ∀ i, i < len → ∃ c : Clk, ∃ ds, ClkIn W c ds ∧ ∀ j, j < 5 → W.cell? ((a.add (i * 5)).add j) = ds[j]? := by
      intro i hi
      obtain ⟨cs', h1, h2⟩ := hx i (by omega)
      obtain ⟨c, hc⟩ := open_clk h2 (hel _ (List.mem_map.2 ⟨i, List.mem_range.2 hi, rfl⟩))
      have h1' : W.cells? 0 (a.add (i * 5)) 5 = some cs' := h1
      obtain ⟨_, -, hc'⟩ := World.cells?_some h1'
      exact ⟨c, cs', hc, hc'⟩
    obtain ⟨f, hf⟩ := Go.Deep.choose_lt each
    refine ⟨some a, (List.range len).map f, cap, by simp, by simpa using hle, ?_, fun k hk => ?_⟩
    · rw [reach_eq, show Tryz.prog.bytesOf 79 = 72 by kernel_rfl] at hsz
      simp at hsz
      simp only [List.length_map, List.length_range]
      unfold Fit; omega
    have hk' : k < len := by simpa using hk
    obtain ⟨ds, ⟨ap, cp, ac, cc, rfl, w0, w3, w4, p1, p2, p3, q1, q2, q3⟩, hc⟩ := hf k hk'
    have c0 := hc 0 (by omega)
    have c1 := hc 1 (by omega)
    have c2 := hc 2 (by omega)
    have c3 := hc 3 (by omega)
    have c4 := hc 4 (by omega)
    rw [Go.Deep.add_add] at c0 c1 c2 c3 c4
    have z : a = ⟨a.block, a.off, none⟩ := by
      obtain ⟨ds', ⟨_, _, _, _, rfl, _⟩, hc'⟩ := hf 0 (by omega)
      have q := hc' 0 (by omega)
      rw [Go.Deep.add_add] at q
      have q' : W.cell? a = some (.int .i64 (f 0).kind) := by simpa [Addr.add] using q
      exact addr_of_cell q'
    refine ⟨a.block, a.off, by rw [← z], ?_⟩
    rw [List.getElem_map, List.getElem_range]
    refine ⟨⟨?_, w0⟩, ⟨ap, cp, ?_, p1, p2, p3⟩, ⟨ac, cc, ?_, q1, q2, q3⟩, ⟨?_, w3⟩, ⟨?_, w4⟩⟩
    · exact add_of z (by simpa using c0)
    · exact add_of z (by simpa using c1)
    · exact add_of z (by simpa using c2)
    · exact add_of z (by simpa using c3)
    · exact add_of z (by simpa using c4)
/-- A slice of limits. -/
def LmtIn (c : Lmt) (cs : List Value) : Prop := cs = [.int .i64 c.clock, .int .i64 c.low, .int .i64 c.high] ∧ Wide c.clock ∧ Wide c.low ∧ Wide c.high
set_option maxRecDepth 100000 in
theorem open_lmt {H : Type} {enc : TypeId × Value → H} {W : World} {n : Nat} {cs : List Value} {x : DataW H × List MemPlace} (h : DataW.trod enc Tryz.prog W 0 (fun _ => true) true n 35 cs = some x) : ∃ c : Lmt, LmtIn c cs := by
  obtain ⟨xs, m, _, rfl, hlen, hxs, hf⟩ := DataW.trod_struct Tryz.underlying35 h
  have hl3 : cs.length = 3 := hlen
  match cs, hl3, xs, hxs with
  | [v0, v1, v2], _, [y0, y1, y2], _ =>
    have g0 : DataW.trod enc Tryz.prog W 0 (fun _ => true) true m 3 [v0] = some y0 := hf 0 _ rfl
    have g1 : DataW.trod enc Tryz.prog W 0 (fun _ => true) true m 3 [v1] = some y1 := hf 1 _ rfl
    have g2 : DataW.trod enc Tryz.prog W 0 (fun _ => true) true m 3 [v2] = some y2 := hf 2 _ rfl
    obtain ⟨k, rfl, w0⟩ := open_num g0
    obtain ⟨lo, rfl, w1⟩ := open_num g1
    obtain ⟨hi, rfl, w2⟩ := open_num g2
    exact ⟨⟨k, lo, hi⟩, rfl, w0, w1, w2⟩
instance : Inhabited Lmt := ⟨⟨0, 0, 0⟩⟩
set_option maxRecDepth 100000 in
theorem open_lmts {H : Type} {enc : TypeId × Value → H} {W : World} {fuel : Nat} {cs : List Value} {x : DataW H × List MemPlace} (h : DataW.trod enc Tryz.prog W 0 (fun _ => true) true fuel 24 cs = some x) (hl : Light 24 x.1) :
    ∃ (a : Option Addr) (raw : List Lmt) (cap : Nat), cs = [.slice a raw.length cap] ∧ raw.length ≤ cap ∧ Fit raw.length ∧ SlOf 3 RLmt W a raw := by
  rcases Go.Deep.open_slice Tryz.underlying24 h with ⟨rfl, -⟩ | ⟨a, len, cap, m, n, D, Pl, rfl, hb, hle, hm, hmm, rfl, hx⟩
  · exact ⟨none, [], 0, rfl, Nat.le_refl _, by unfold Fit; simp, fun k hk => absurd hk (by simp)⟩
  · have hmc : m = cap := by simpa using hmm
    have hsz := (hl.elem Tryz.underlying24).1
    have each : ∀ i, i < len → ∃ c : Lmt, ∃ ds, LmtIn c ds ∧ ∀ j, j < 3 → W.cell? ((a.add (i * 3)).add j) = ds[j]? := by
      intro i hi
      obtain ⟨cs', h1, h2⟩ := hx i (by omega)
      obtain ⟨c, hc⟩ := open_lmt h2
      have h1' : W.cells? 0 (a.add (i * 3)) 3 = some cs' := h1
      obtain ⟨_, -, hc'⟩ := World.cells?_some h1'
      exact ⟨c, cs', hc, hc'⟩
    obtain ⟨f, hf⟩ := Go.Deep.choose_lt each
    refine ⟨some a, (List.range len).map f, cap, by simp, by simpa using hle, ?_, fun k hk => ?_⟩
    · rw [reach_eq, show Tryz.prog.bytesOf 35 = 24 by kernel_rfl] at hsz
      simp at hsz
      simp only [List.length_map, List.length_range]
      unfold Fit; omega
    have hk' : k < len := by simpa using hk
    obtain ⟨ds, ⟨rfl, w0, w1, w2⟩, hc⟩ := hf k hk'
    have c0 := hc 0 (by omega)
    have c1 := hc 1 (by omega)
    have c2 := hc 2 (by omega)
    rw [Go.Deep.add_add] at c0 c1 c2
    have z : a = ⟨a.block, a.off, none⟩ := by
      obtain ⟨ds', ⟨rfl, _⟩, hc'⟩ := hf 0 (by omega)
      have q := hc' 0 (by omega)
      rw [Go.Deep.add_add] at q
      have q' : W.cell? a = some (.int .i64 (f 0).clock) := by simpa [Addr.add] using q
      exact addr_of_cell q'
    refine ⟨a.block, a.off, by rw [← z], ?_⟩
    rw [List.getElem_map, List.getElem_range]
    refine ⟨⟨?_, w0⟩, ⟨?_, w1⟩, ⟨?_, w2⟩⟩
    · exact add_of z (by simpa using c0)
    · exact add_of z (by simpa using c1)
    · exact add_of z (by simpa using c2)
/-- A slice of branches. -/
def BrnIn (W : World) (c : Brn) (cs : List Value) : Prop := ∃ ap cp, cs = [.int .i64 c.limit, .int .i64 c.clock, .slice ap c.next.length cp] ∧ Wide c.limit ∧ Wide c.clock ∧ c.next.length ≤ cp ∧ Fit c.next.length ∧ SlOf 1 RI W ap c.next
set_option maxRecDepth 100000 in
theorem open_brn {H : Type} {enc : TypeId × Value → H} {W : World} {n : Nat} {cs : List Value} {x : DataW H × List MemPlace} (h : DataW.trod enc Tryz.prog W 0 (fun _ => true) true n 81 cs = some x) (hl : Light 81 x.1) : ∃ c : Brn, BrnIn W c cs := by
  obtain ⟨xs, m, _, rfl, hlen, hxs, hf⟩ := DataW.trod_struct Tryz.underlying81 h
  have hl3 : cs.length = 3 := hlen
  match cs, hl3, xs, hxs with
  | [v0, v1, v2], _, [y0, y1, y2], _ =>
    have g0 : DataW.trod enc Tryz.prog W 0 (fun _ => true) true m 3 [v0] = some y0 := hf 0 _ rfl
    have g1 : DataW.trod enc Tryz.prog W 0 (fun _ => true) true m 3 [v1] = some y1 := hf 1 _ rfl
    have g2 : DataW.trod enc Tryz.prog W 0 (fun _ => true) true m 22 [v2] = some y2 := hf 2 _ rfl
    have l2 : Light 22 y2.1 := Light.part (j := 2) hl Tryz.underlying81 rfl rfl
    obtain ⟨k, rfl, w0⟩ := open_num g0
    obtain ⟨lo, rfl, w1⟩ := open_num g1
    obtain ⟨ap, ps, cp, e1, p1, p2, p3⟩ := open_nums g2 l2
    injection e1 with e1 _
    subst e1
    exact ⟨⟨k, lo, ps⟩, ap, cp, rfl, w0, w1, p1, p2, p3⟩
instance : Inhabited Brn := ⟨⟨0, 0, []⟩⟩
set_option maxRecDepth 100000 in
theorem open_brns {H : Type} {enc : TypeId × Value → H} {W : World} {fuel : Nat} {cs : List Value} {x : DataW H × List MemPlace} (h : DataW.trod enc Tryz.prog W 0 (fun _ => true) true fuel 25 cs = some x) (hl : Light 25 x.1) :
    ∃ (a : Option Addr) (raw : List Brn) (cap : Nat), cs = [.slice a raw.length cap] ∧ raw.length ≤ cap ∧ Fit raw.length ∧ SlOf 3 RBrn W a raw := by
  rcases Go.Deep.open_slice Tryz.underlying25 h with ⟨rfl, -⟩ | ⟨a, len, cap, m, n, D, Pl, rfl, hb, hle, hm, hmm, rfl, hx⟩
  · exact ⟨none, [], 0, rfl, Nat.le_refl _, by unfold Fit; simp, fun k hk => absurd hk (by simp)⟩
  · have hmc : m = cap := by simpa using hmm
    obtain ⟨hsz, hel⟩ := hl.elem Tryz.underlying25
    have each : ∀ i, i < len → ∃ c : Brn, ∃ ds, BrnIn W c ds ∧ ∀ j, j < 3 → W.cell? ((a.add (i * 3)).add j) = ds[j]? := by
      intro i hi
      obtain ⟨cs', h1, h2⟩ := hx i (by omega)
      obtain ⟨c, hc⟩ := open_brn h2 (hel _ (List.mem_map.2 ⟨i, List.mem_range.2 hi, rfl⟩))
      have h1' : W.cells? 0 (a.add (i * 3)) 3 = some cs' := h1
      obtain ⟨_, -, hc'⟩ := World.cells?_some h1'
      exact ⟨c, cs', hc, hc'⟩
    obtain ⟨f, hf⟩ := Go.Deep.choose_lt each
    refine ⟨some a, (List.range len).map f, cap, by simp, by simpa using hle, ?_, fun k hk => ?_⟩
    · rw [reach_eq, show Tryz.prog.bytesOf 81 = 40 by kernel_rfl] at hsz
      simp at hsz
      simp only [List.length_map, List.length_range]
      unfold Fit; omega
    have hk' : k < len := by simpa using hk
    obtain ⟨ds, ⟨ap, cp, rfl, w0, w1, p1, p2, p3⟩, hc⟩ := hf k hk'
    have c0 := hc 0 (by omega)
    have c1 := hc 1 (by omega)
    have c2 := hc 2 (by omega)
    rw [Go.Deep.add_add] at c0 c1 c2
    have z : a = ⟨a.block, a.off, none⟩ := by
      obtain ⟨ds', ⟨_, _, rfl, _⟩, hc'⟩ := hf 0 (by omega)
      have q := hc' 0 (by omega)
      rw [Go.Deep.add_add] at q
      have q' : W.cell? a = some (.int .i64 (f 0).limit) := by simpa [Addr.add] using q
      exact addr_of_cell q'
    refine ⟨a.block, a.off, by rw [← z], ?_⟩
    rw [List.getElem_map, List.getElem_range]
    refine ⟨⟨?_, w0⟩, ⟨?_, w1⟩, ⟨ap, cp, ?_, p1, p2, p3⟩⟩
    · exact add_of z (by simpa using c0)
    · exact add_of z (by simpa using c1)
    · exact add_of z (by simpa using c2)
end Go.Proofs.YtenehghpmnajpaaGreatDoor

set_option linter.unusedVariables false
set_option linter.unusedSimpArgs false
namespace Go.Proofs.YtenehghpmnajpaaGreatDoor
open Go.RowKit
open Classical
def GivesBool (w : World) (e : Ending) (w' : World) : Prop := ∃ b : Bool, e = .returned (.bool b) ∧ Gr w w'
def GivesSmall (w : World) (bs : List Brn) (e : Ending) (w' : World) : Prop := ∃ b : Bool, e = .returned (.bool b) ∧ Gr w w' ∧ (b = true → bs.length ≤ 2000 ∧ ∀ x ∈ bs, x.next.length ≤ 2000)
set_option maxRecDepth 100000 in
set_option maxHeartbeats 2000000 in
theorem smallC_any (l : List Clk) (al : Option Addr) (cl : Nat) (w : World) (h : SlOf 5 RClk w al l) (fl : Fit l.length) :
    Calls Tryz.prog 6 #[.slice al l.length cl] w (GivesBool w) := by
  have H := Lib.hid h
  unfold Fit at fl
  clear h
  go_enter Tryz.func6, Tryz.ntmps6
  go_wp2_with fail
  go_loopw [3, 4] (fun s3 s4 wr => ∃ (n i : Nat), s3 = .int .i64 (n : Int) ∧ s4 = .int .i64 (i : Int) ∧ i ≤ l.length ∧ n ≤ 300000000000000 ∧ Gr w wr) (fun _ s4 _ => l.length - (intOf s4).toNat)
  case atStart => exact ⟨l.length, 0, rfl, rfl, Nat.zero_le _, by omega, Gr.refl _⟩
  case round =>
    obtain ⟨n, i, rfl, rfl, hi, hn, hg⟩ := hrel
    have HG := Lib.hid hg
    clear hg
    by_cases hlt : i < l.length
    · have k2 : (i : Int) < l.length := by omega
      by_cases h9 : n < 900
      · have k9 : (n : Int) < 900 := by omega
        obtain ⟨b, o, rfl, ⟨d0, _⟩, ⟨ap, cp, d1, _, d1f, _⟩, ⟨ac, cc, d2, _, d2f, _⟩, ⟨d3, _⟩, ⟨d4, _⟩⟩ := clks_gr H.out HG.out i hlt
        unfold Fit at d1f d2f
        have dh := has_of_cell d0
        have b1 : (0 : Int) ≤ l[i].parents.length ∧ (l[i].parents.length : Int) ≤ 140737488351232 := by omega
        have b2 : (0 : Int) ≤ l[i].choices.length ∧ (l[i].choices.length : Int) ≤ 140737488351232 := by omega
        go_wp2_with fail
        go_quiet (fail)
        go_wp2_with fail
        go_roundw
        case rel => exact ⟨n + (l[i].parents.length + l[i].choices.length), i + 1, by go_num, by go_num, by omega, by omega, HG.out.drewN _⟩
        case measure => simp [intOf]; omega
      · have k9 : ¬ (n : Int) < 900 := by omega
        go_wp2_with fail
        go_ret
        exact ⟨_, rfl, HG.out⟩
    · have k2 : ¬ (i : Int) < l.length := by omega
      go_wp2_with fail
      go_ret
      exact ⟨_, rfl, HG.out⟩
set_option maxRecDepth 100000 in
set_option maxHeartbeats 2000000 in
theorem smallB_any (bs : List Brn) (ab : Option Addr) (cb : Nat) (w : World) (h : SlOf 3 RBrn w ab bs) (fl : Fit bs.length) :
    Calls Tryz.prog 7 #[.slice ab bs.length cb] w (GivesSmall w bs) := by
  have H := Lib.hid h
  unfold Fit at fl
  clear h
  go_enter Tryz.func7, Tryz.ntmps7
  go_wp2_with fail
  go_loopw [3, 4] (fun s3 s4 wr => ∃ (n i : Nat), s3 = .int .i64 (n : Int) ∧ s4 = .int .i64 (i : Int) ∧ i ≤ bs.length ∧ n ≤ 300000000000000 ∧ Gr w wr ∧ bs.length ≤ n ∧ Hid (∀ j (hj : j < bs.length), j < i → bs[j].next.length ≤ n)) (fun _ s4 _ => bs.length - (intOf s4).toNat)
  case atStart => exact ⟨bs.length, 0, rfl, rfl, Nat.zero_le _, by omega, Gr.refl _, Nat.le_refl _, Lib.hid (fun j _ h => by omega)⟩
  case round =>
    obtain ⟨n, i, rfl, rfl, hi, hn, hg, hbn, hdone⟩ := hrel
    have HG := Lib.hid hg
    clear hg
    by_cases hlt : i < bs.length
    · have k2 : (i : Int) < bs.length := by omega
      by_cases h9 : n < 3000
      · have k9 : (n : Int) < 3000 := by omega
        obtain ⟨b, o, rfl, ⟨d0, _⟩, ⟨d1, _⟩, ⟨ap, cp, d2, _, d2f, _⟩⟩ := (H.out.gr RBrn.mono HG.out) i hlt
        unfold Fit at d2f
        have dh := has_of_cell d0
        have b2 : (0 : Int) ≤ bs[i].next.length ∧ (bs[i].next.length : Int) ≤ 140737488351232 := by omega
        go_wp2_with fail
        go_roundw
        case rel =>
          refine ⟨n + bs[i].next.length, i + 1, by go_num, by go_num, by omega, by omega, HG.out, by omega, Lib.hid (fun j hj h => ?_)⟩
          by_cases e : j = i
          · subst e; omega
          · have := hdone.out j hj (by omega); omega
        case measure => simp [intOf]; omega
      · have k9 : ¬ (n : Int) < 3000 := by omega
        have k10 : decide ((n : Int) ≤ 2000) = false := decide_eq_false (by omega)
        have k11 : decide (n ≤ 2000) = false := decide_eq_false (by omega)
        go_wp2_with fail
        go_ret
        exact ⟨false, rfl, HG.out, fun q => by cases q⟩
    · have k2 : ¬ (i : Int) < bs.length := by omega
      have hall : ∀ x ∈ bs, x.next.length ≤ n := fun x hx => by
        obtain ⟨j, hj, rfl⟩ := List.mem_iff_getElem.1 hx
        exact hdone.out j hj (by omega)
      have HA := Lib.hid hall
      by_cases h2 : n ≤ 2000
      · have k10 : decide ((n : Int) ≤ 2000) = true := decide_eq_true (by omega)
        have k11 : decide (n ≤ 2000) = true := decide_eq_true (by omega)
        clear hall
        go_wp2_with fail
        go_ret
        exact ⟨true, rfl, HG.out, fun _ => ⟨by omega, fun x hx => by have := HA.out x hx; omega⟩⟩
      · have k10 : decide ((n : Int) ≤ 2000) = false := decide_eq_false (by omega)
        have k11 : decide (n ≤ 2000) = false := decide_eq_false (by omega)
        clear hall
        go_wp2_with fail
        go_ret
        exact ⟨false, rfl, HG.out, fun q => by cases q⟩
set_option maxRecDepth 100000 in
set_option maxHeartbeats 1000000 in
theorem states17_any (l : List Clk) (al : Option Addr) (cl : Nat) (w : World) (h : SlOf 5 RClk w al l) (hc : cchk l = 0) :
    Calls Tryz.prog 15 #[.slice al l.length cl] w (Grows w (.int .i64 (prodC l : Nat))) := by
  obtain ⟨nb, ok, pr, fs⟩ := cchk_zero hc
  have hl := small_len nb
  have NB := Lib.hid nb
  have H := Lib.hid h
  have PR := Lib.hid pr
  have TK : Hid (∀ k, prodC (l.take k) ≤ prodC l) := Lib.hid (fun k => prodC_take_le (allOk_cho ok) k)
  clear h hc nb ok pr fs
  go_enter Tryz.func15, Tryz.ntmps15
  go_wp2_with fail
  go_loopw [3, 8] (fun n i wr => ∃ k : Nat, k ≤ l.length ∧ i = .int .i64 k ∧ n = .int .i64 (prodC (l.take k) : Nat) ∧ Gr w wr) (fun _ i _ => l.length - (intOf i).toNat)
  case atStart => exact ⟨0, Nat.zero_le _, rfl, rfl, Gr.refl _⟩
  case round =>
    obtain ⟨k, hk, rfl, rfl, hg⟩ := hrel
    have HG := Lib.hid hg
    by_cases hlt2 : k < l.length
    · have h1 := TK.out k
      have h2 := TK.out (k + 1)
      have h3 := PR.out
      have hstep := prodC_take l k hlt2
      obtain ⟨x, ex⟩ : ∃ x, prodC (l.take k) = x := ⟨_, rfl⟩
      rw [ex] at h1 hstep ⊢
      rw [hstep] at h2
      have HST := Lib.hid hstep
      have hm1 : ((x * l[k].choices.length : Nat) : Int) ≤ 4096 := by omega
      have hm0 : (0 : Int) ≤ ((x * l[k].choices.length : Nat) : Int) := by omega
      rw [Int.natCast_mul] at hm0 hm1
      have hx4 : x ≤ 4096 := by omega
      obtain ⟨fp, fc⟩ := small_at NB.out hlt2
      obtain ⟨b, o, rfl, ⟨d0, _⟩, ⟨ap, cp, d1, _⟩, ⟨ac, cc, d2, d2l, d2f, _⟩, ⟨d3, _⟩, ⟨d4, _⟩⟩ := clks_gr H.out hg k hlt2
      unfold Fit at d2f
      have k2 : (k : Int) < l.length := by omega
      have dh := has_of_cell d0
      clear ex hg hstep h1 h2 h3
      go_wp2_with fail
      go_roundw
      case rel => exact ⟨k + 1, by omega, by go_num, by rw [HST.out, Int.natCast_mul], HG.out.alloc _⟩
      case measure => simp [intOf]; omega
    · obtain rfl : k = l.length := by omega
      clear hg
      go_wp2_with fail
      go_ret
      exact ⟨by rw [List.take_length]; rfl, HG.out⟩
end Go.Proofs.YtenehghpmnajpaaGreatDoor
