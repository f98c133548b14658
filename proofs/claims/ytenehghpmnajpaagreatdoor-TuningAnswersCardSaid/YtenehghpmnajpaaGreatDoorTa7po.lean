/- Lemmas and contracts for the proof of TuningAnswers (several texts in one, printed by wip/tools/pack.py): RvC GaA. -/
import Derived.Test.YtenehghpmnajpaaGreatDoorTa7pn
set_option linter.unusedVariables false
set_option linter.unusedSimpArgs false
namespace Go.Proofs.YtenehghpmnajpaaGreatDoor
open Go.RowKit
open Classical
set_option maxRecDepth 100000 in
set_option maxHeartbeats 1000000 in
theorem refBegin_any (l : List Clk) (ms : List Lmt) (al am : Option Addr) (cl cm : Nat) (w : World) (henv : Env w l ms al am) :
    Calls Tryz.prog 61 #[.slice al l.length cl, .slice am ms.length cm] w (Grows w (.int .i64 0)) := by
  have hl := small_len (cchk_zero henv.chk).1
  have S0 : Hid (Calls Tryz.prog 14 #[.slice al l.length cl] w (Grows w (.int .i64 0))) := Lib.hid (by
    have := refCheck_any l al cl w henv.clks (by unfold Fit; omega)
    rwa [henv.chk] at this)
  have S1 : Hid (∀ W, Gr w W → Calls Tryz.prog 100 #[.slice al l.length cl, .slice am ms.length cm] W (Grows W (.bool true))) := Lib.hid fun W hW =>
    refLimits_ok l ms al am cl cm W (clks_gr henv.clks hW) (lmts_gr henv.lmts hW) henv.chk henv.lims
  clear henv
  go_enter Tryz.func61, Tryz.ntmps61
  go_wp2_with fail
  refine S0.out.mono ?_
  rintro e w1 ⟨rfl, hg1⟩
  have G1 := Lib.hid hg1
  clear hg1
  go_wp2_with fail
  refine (S1.out _ G1.out).mono ?_
  rintro e w2 ⟨rfl, hg2⟩
  have G2 := Lib.hid (G1.out.trans hg2)
  clear hg2
  go_wp2_with fail
  go_ret
  exact ⟨rfl, G2.out⟩
theorem made_nil (n : Nat) : (madeCells #[Value.slice none 0 0] n).toList = List.replicate n (Value.slice none 0 0) := by
  apply List.ext_getElem
  · simp [madeCells]
  · intro i h1 h2
    simp [madeCells, Nat.mod_one]
/-- The answer of the reference's check. -/
noncomputable def refAns (l : List Clk) (ms : List Lmt) (b : List Brn) : Bool := decide (b ≠ []) && refChk l ms b
theorem SetsAt.ne {base SG L C T : Nat} {w : World} {S : Sets} {us : List Value} (h : SetsAt base w SG L S) (r : RowS w C T us) (hT : T ≠ 22) : C ≠ SG := by
  obtain ⟨vs, h1, _⟩ := h
  exact RowS.apart r h1.s hT
theorem SetsAt.free {base SG L : Nat} {w : World} {S : Sets} (h : SetsAt base w SG L S) (k : Nat) : w.frozen? ⟨SG, k, none⟩ = false := h.elim fun vs h => h.1.free k
theorem refAns_stop {l : List Clk} {ms : List Lmt} {b : List Brn} {i : Nat} (hi : i < b.length) {S : Sets} (hr : runRf l ms b i = some S) (h : stepRf l ms b.length i b[i] S = none) : refAns l ms b = false := by
  have : runRf l ms b (i + 1) = none := by
    simp only [runRf]
    rw [hr]
    simp only [Option.bind_some]
    rw [List.getD_eq_getElem?_getD, List.getElem?_eq_getElem hi]
    exact h
  unfold refAns refChk
  rw [runRf_none this b.length (by omega)]; simp
theorem runRf_next {l : List Clk} {ms : List Lmt} {b : List Brn} {i : Nat} (hi : i < b.length) {S : Sets} (hr : runRf l ms b i = some S) : runRf l ms b (i + 1) = stepRf l ms b.length i b[i] S := by
  simp only [runRf]
  rw [hr]
  simp only [Option.bind_some]
  rw [List.getD_eq_getElem?_getD, List.getElem?_eq_getElem hi]; rfl
set_option maxRecDepth 100000 in
set_option maxHeartbeats 8000000 in
theorem refChk_any (l : List Clk) (ms : List Lmt) (b : List Brn) (al am ab : Option Addr) (cl cm cb : Nat) (w : World) (henv : Env w l ms al am) (hb : SlOf 3 RBrn w ab b) (hbl : b.length ≤ 100000) :
    Calls Tryz.prog 27 #[.slice al l.length cl, .slice am ms.length cm, .slice ab b.length cb] w (Grows w (.bool (refAns l ms b))) := by
  have hl := small_len (cchk_zero henv.chk).1
  have NB := Lib.hid (cchk_zero henv.chk).1
  have hml := henv.lims.1
  have BG := Lib.hid (refBegin_any l ms al am cl cm w henv)
  have HE := Lib.hid henv
  have HBR := Lib.hid hb
  have hmk := run_make_row' (P := Tryz.prog) 22 3 (.int .i64 0) 8 Tryz.underlying22 infoInt rfl .i64 .i64 l.length (by omega) (by omega)
  have hmk2 := run_make_row' (P := Tryz.prog) 59 22 (.slice none 0 0) 24 Tryz.underlying59 infoSl rfl .i64 .i64 b.length (by omega) (by omega)
  have he : ∀ (B c : Nat) (w : World), (binOp .eql 22 (.slice (some ⟨B, 0, none⟩) l.length c) (.slice none 0 0)).run Tryz.prog w = .ok (.bool false) w := fun _ _ _ => rfl
  have he2 : ∀ (w : World), (binOp .eql 22 (.slice none 0 0) (.slice none 0 0)).run Tryz.prog w = .ok (.bool true) w := fun _ => rfl
  have hne : ∀ (B c : Nat) (w : World), (binOp .neq 22 (.slice (some ⟨B, 0, none⟩) l.length c) (.slice none 0 0)).run Tryz.prog w = .ok (.bool true) w := fun _ _ _ => rfl
  have hne2 : ∀ (w : World), (binOp .neq 22 (.slice none 0 0) (.slice none 0 0)).run Tryz.prog w = .ok (.bool false) w := fun _ => rfl
  obtain ⟨i0, hi, hz0, hz1, hz2⟩ := info_parts infoInt
  clear henv hb
  go_enter Tryz.func27, Tryz.ntmps27
  go_wp2_with fail
  refine BG.out.mono ?_
  rintro e w1 ⟨rfl, hg1⟩
  have G1 := Lib.hid hg1
  clear hg1 BG
  by_cases hb0 : b.length = 0
  · have bz : ((b.length : Int) == 0) = true := by simp [hb0]
    have E : Hid (refAns l ms b = false) := Lib.hid (by unfold refAns; rw [List.length_eq_zero_iff.1 hb0]; simp)
    clear hb0
    go_wp2_with fail
    go_ret
    exact ⟨ret_bool E.out.symm, G1.out⟩
  · have bz : ((b.length : Int) == 0) = false := by rw [beq_eq_false_iff_ne]; omega
    have b1 : 0 < (b.length : Int) := by omega
    have BP : Hid (0 < b.length) := Lib.hid (by omega)
    have hm0 : (madeCells #[Value.slice none 0 0] b.length)[0]? = some (.slice none 0 0) := by
      rw [← Array.getElem?_toList, made_nil, List.getElem?_replicate, if_pos (by omega)]
    clear hb0
    go_wp2_with fail
    obtain ⟨SG, hSG⟩ : ∃ SG : Nat, Hid (w1.heap.size = SG) := ⟨_, Lib.hid rfl⟩
    obtain ⟨W2, hW2⟩ : ∃ W2 : World, Hid (W2 = ((w1.alloc (.cells ((madeCells #[.slice none 0 0] b.length).setIfInBounds 0 (.slice (some ⟨w1.heap.size + 1, 0, none⟩) l.length l.length)) 22)).alloc (.cells (madeCells #[.int .i64 0] l.length) 3))) := ⟨_, Lib.hid rfl⟩
    rw [← hW2.out, hSG.out]
    have RS : Hid (Row W2 SG 22 (.slice (some ⟨SG + 1, 0, none⟩) l.length l.length :: List.replicate (b.length - 1) (.slice none 0 0))) := Lib.hid (by
      rw [hW2.out, ← hSG.out]
      have := (Row.new w1 ((madeCells #[.slice none 0 0] b.length).setIfInBounds 0 (.slice (some ⟨w1.heap.size + 1, 0, none⟩) l.length l.length)) 22).alloc (.cells (madeCells #[.int .i64 0] l.length) 3)
      rw [Array.toList_setIfInBounds, made_nil] at this
      have e : List.replicate b.length (Value.slice none 0 0) = .slice none 0 0 :: List.replicate (b.length - 1) (.slice none 0 0) := by
        have := BP.out
        rw [← List.replicate_succ]; congr 1; omega
      rw [e, List.set_cons_zero] at this
      exact this)
    have R0 : Hid (Row W2 (SG + 1) 3 (nums (startK l 0))) := Lib.hid (by
      rw [hW2.out, ← hSG.out]
      have := Row.new (w1.alloc (.cells ((madeCells #[.slice none 0 0] b.length).setIfInBounds 0 (.slice (some ⟨w1.heap.size + 1, 0, none⟩) l.length l.length)) 22)) (madeCells #[.int .i64 0] l.length) 3
      have e : (madeCells #[Value.int .i64 0] l.length).toList = nums (startK l 0) := by
        rw [made_zero]; simp [startK, startS, nums]
      rw [e] at this
      have e2 : (w1.alloc (.cells ((madeCells #[.slice none 0 0] b.length).setIfInBounds 0 (.slice (some ⟨w1.heap.size + 1, 0, none⟩) l.length l.length)) 22)).heap.size = w1.heap.size + 1 := by simp
      rw [e2] at this
      exact this)
    have G2 : Hid (Gr w W2) := Lib.hid (by rw [hW2.out]; exact (G1.out.alloc _).alloc _)
    have sb : Hid (w.heap.size ≤ SG) := Lib.hid (by have := hSG.out; have := G1.out.size; omega)
    clear hW2 hm0 hmk hmk2
    go_loopw [34] (fun s34 wr => ∃ k : Nat, k ≤ l.length ∧ s34 = .int .i64 (k : Int) ∧ Row wr SG 22 (.slice (some ⟨SG + 1, 0, none⟩) l.length l.length :: List.replicate (b.length - 1) (.slice none 0 0)) ∧ Row wr (SG + 1) 3 (nums (startK l k)) ∧ Gr w wr) (fun s34 _ => l.length - (intOf s34).toNat)
    case atStart => exact ⟨0, Nat.zero_le _, rfl, RS.out, R0.out, G2.out⟩
    case round =>
      clear RS R0 G2
      obtain ⟨k, hk, rfl, hrs, hr, hg⟩ := hrel
      have HR := Lib.hid hr
      have HRS := Lib.hid hrs
      have HG := Lib.hid hg
      by_cases hlt : k < l.length
      · obtain ⟨bb, o, rfl, ⟨d0, _⟩, ⟨ap, cp, d1, _⟩, ⟨ac, cc, d2, _, d2f, _⟩, ⟨d3, _⟩, ⟨d4, _⟩⟩ := clks_gr HE.out.clks hg k hlt
        have k2 : (k : Int) < l.length := by omega
        have hh := has_of_cell d0
        have SS := Lib.hid (startK_step l k hlt)
        have e0 := hr.iat k (by rw [startK_len l k hk]; exact hlt)
        have f0 := hr.free k
        have rh := hr.has
        have s0 := hrs.cell 0 (by simp)
        have sh := hrs.has
        simp only [List.getElem_cons_zero] at s0
        by_cases hb : 1 < l[k].choices.length
        · have b1 : decide ((1 : Int) < (l[k].choices.length : Int)) = true := decide_eq_true (by omega)
          rw [if_pos hb] at SS
          clear hb hr hrs hg
          go_wp2_with fail
          go_roundw
          case rel =>
            refine ⟨k + 1, by omega, by go_num, (HRS.out.oth (by omega)).alloc _, ?_, (HG.out.setc (by have := sb.out; omega)).alloc _⟩
            rw [SS.out]
            exact (HR.out.iset k (-1)).alloc _
          case measure => simp [intOf]; omega
        · have b1 : decide ((1 : Int) < (l[k].choices.length : Int)) = false := decide_eq_false (by omega)
          rw [if_neg hb] at SS
          clear hb hr hrs hg
          go_wp2_with fail
          go_roundw
          case rel =>
            refine ⟨k + 1, by omega, by go_num, HRS.out.alloc _, ?_, HG.out.alloc _⟩
            rw [SS.out]
            have e : (startK l k).set k 0 = startK l k := by
              refine set_same _ _ (by rw [startK_len l k hk]; exact hlt) _ ?_
              have : (startS (l.take k)).length = k := by simp [startS]; omega
              simp only [startK]
              rw [List.getElem_append_right (by omega)]
              simp
            rw [e]
            exact HR.out.alloc _
          case measure => simp [intOf]; omega
      · have hk' : k = l.length := by omega
        subst hk'
        have e : startK l l.length = startS l := by simp [startK]
        rw [e] at hr
        have ST : Hid (SetsAt w.heap.size wr SG l.length (some (startS l) :: List.replicate (b.length - 1) none)) := Lib.hid (by
          refine ⟨_, hrs, by simp, fun q h h' => ?_, sb.out⟩
          cases q with
          | zero => exact ⟨SG + 1, l.length, rfl, by have := sb.out; omega, hr.s⟩
          | succ q => simp only [List.getElem_cons_succ, List.getElem_replicate]; exact rfl)
        clear hr hrs HR HRS e hg hk
        go_wp2_with fail
        obtain ⟨wo, hwo⟩ : ∃ wo : World, wo = wr := ⟨_, rfl⟩
        rw [← hwo] at ST HG ⊢
        clear hwo
        go_loopw [51] (fun s51 wr => ∃ (i : Nat) (S : Sets), i ≤ b.length ∧ s51 = .int .i64 (i : Int) ∧ runRf l ms b i = some S ∧ SetsAt w.heap.size wr SG l.length S ∧ Gr w wr) (fun s51 _ => b.length - (intOf s51).toNat)
        case atStart => exact ⟨0, _, Nat.zero_le _, rfl, rfl, ST.out, HG.out⟩
        case round =>
          clear ST HG
          obtain ⟨i, S, hi0, rfl, hrun, hst, hg⟩ := hrel
          have HS := Lib.hid hst
          have HG := Lib.hid hg
          have HRUN := Lib.hid hrun
          obtain ⟨sok, slen⟩ := runRf_ok HE.out.chk BP.out i S hrun
          by_cases hlt : i < b.length
          · obtain ⟨bb, ob, rfl, ⟨d0, y0⟩, ⟨d1, y1⟩, ⟨an, cn, d2, hcn, fn, sn⟩⟩ := HBR.out i hlt
            have d0 := cell_gr hg d0
            have d1 := cell_gr hg d1
            have d2 := cell_gr hg d2
            have i2 : (i : Int) < b.length := by omega
            have hh := has_of_cell d0
            obtain ⟨v, s0, hs0, sf0, sh⟩ := hst.get (k := i) (by omega)
            have STP := Lib.hid (fun (h : stepRf l ms b.length i b[i] S = none) => refAns_stop hlt hrun h)
            have NXT := Lib.hid (runRf_next hlt hrun)
            have SI : Hid (S.getD i none = S[i]'(by omega)) := Lib.hid (by rw [List.getD_eq_getElem?_getD, List.getElem?_eq_getElem (by omega)]; rfl)
            obtain ⟨x, hx⟩ : ∃ x, b[i] = x := ⟨_, rfl⟩
            rw [hx] at d0 d1 d2 y0 y1 hcn fn sn STP NXT
            obtain ⟨lim, clk, nxt⟩ := x
            simp only at d0 d1 d2 y0 y1 hcn fn sn
            cases eS : S[i]'(by omega) with
            | none =>
              rw [eS] at hs0 SI
              have hv : v = .slice none 0 0 := hs0
              subst hv
              have E := Lib.hid (STP.out (by simp only [stepRf]; rw [SI.out]))
              clear hst hg hrun sok hs0 STP NXT eS hx sn
              go_wp2_with fail
              go_ret
              exact ⟨ret_bool E.out.symm, (HG.out.alloc _)⟩
            | some t =>
              rw [eS] at hs0 SI
              obtain ⟨B, cB, hv, hbB, hrB⟩ := hs0
              subst hv
              have PT : Hid (PrtOk l t) := Lib.hid (sok t (by rw [← eS]; exact List.getElem_mem _))
              have tl : Hid (t.length = l.length) := Lib.hid PT.out.1
              have RT := Lib.hid hrB
              have HBB := Lib.hid hbB
              have SN := Lib.hid sn
              have STI : Hid (∀ R, (if 0 ≤ lim then (if LeafOk l ms t ⟨lim, clk, nxt⟩ then some S else none) else if NodeOk l t ⟨lim, clk, nxt⟩ then kidsR b.length i clk t nxt S nxt.length else none) = R → stepRf l ms b.length i ⟨lim, clk, nxt⟩ S = R) := Lib.hid (fun R h => by simp only [stepRf]; rw [SI.out]; exact h)
              have SL := Lib.hid slen
              have hib : 0 ≤ (i : Int) := by omega
              clear hst hg hrun sok hrB hbB eS hx sn slen SI
              by_cases hlim : 0 ≤ lim
              · have bl : decide (0 ≤ lim) = true := decide_eq_true hlim
                have LF := Lib.hid (fun R (h : (if LeafOk l ms t ⟨lim, clk, nxt⟩ then some S else none) = R) => STI.out R (by rw [if_pos hlim]; exact h))
                have BK := Lib.hid (fun W (hW : Gr w W) (hr : RowS W B 3 (nums t)) => breaks_any l ms t lim al am (some ⟨B, 0, none⟩) cl cm cB W HE.out.chk PT.out (clks_gr HE.out.clks hW) (lmts_gr HE.out.lmts hW) (hr.slI (PT.out.wide HE.out.chk)) HE.out.lims hlim y0.2)
                rw [tl.out] at BK
                clear STI hlim
                by_cases hc0 : clk = 0
                · subst hc0
                  by_cases hn0 : nxt.length = 0
                  · have hnn := List.length_eq_zero_iff.1 hn0
                    subst hnn
                    clear hn0
                    cases hlf : leafS l ms t lim with
                    | true =>
                      have N2 := Lib.hid (LF.out (some S) (if_pos ⟨rfl, rfl, hlf⟩))
                      rw [hlf] at BK
                      clear hlf LF
                      go_wp2_with fail
                      refine (BK.out _ (HG.out.alloc _) (RT.out.alloc _)).mono ?_
                      rintro e w5 ⟨rfl, hg5⟩
                      have S5 := Lib.hid ((HS.out.gr ((Gr.refl _).alloc _)).gr hg5)
                      have G5 := Lib.hid ((HG.out.alloc _).trans hg5)
                      clear hg5 BK
                      go_wp2_with fail
                      go_roundw
                      case rel => exact ⟨i + 1, S, by omega, by go_num, NXT.out.trans N2.out, S5.out, G5.out⟩
                      case measure => simp [intOf]; omega
                    | false =>
                      have E := Lib.hid (STP.out (LF.out none (if_neg (fun h => by have := h.2.2; simp only at this; rw [hlf] at this; cases this))))
                      rw [hlf] at BK
                      clear hlf LF
                      go_wp2_with fail
                      refine (BK.out _ (HG.out.alloc _) (RT.out.alloc _)).mono ?_
                      rintro e w5 ⟨rfl, hg5⟩
                      have G5 := Lib.hid ((HG.out.alloc _).trans hg5)
                      clear hg5 BK
                      go_wp2_with fail
                      go_ret
                      exact ⟨ret_bool E.out.symm, G5.out⟩
                  · have bn : decide (0 < nxt.length) = true := decide_eq_true (by omega)
                    have E := Lib.hid (STP.out (LF.out none (if_neg (fun h => by have := h.2.1; simp only at this; rw [this] at hn0; exact hn0 rfl))))
                    clear hn0 LF BK
                    go_wp2_with fail
                    go_ret
                    exact ⟨ret_bool E.out.symm, HG.out.alloc _⟩
                · have bc : (clk != 0) = true := by simp [hc0]
                  have E := Lib.hid (STP.out (LF.out none (if_neg (fun h => hc0 h.1))))
                  clear hc0 LF BK
                  go_wp2_with fail
                  go_ret
                  exact ⟨ret_bool E.out.symm, HG.out.alloc _⟩
              · have bl : decide (0 ≤ lim) = false := decide_eq_false hlim
                have ND := Lib.hid (fun R (h : (if NodeOk l t ⟨lim, clk, nxt⟩ then kidsR b.length i clk t nxt S nxt.length else none) = R) => STI.out R (by rw [if_neg hlim]; exact h))
                clear STI
                by_cases hm1 : lim = -1
                · subst hm1
                  clear hlim
                  by_cases hk0 : clk < 0
                  · have b0 : decide (clk < 0) = true := decide_eq_true hk0
                    have E := Lib.hid (STP.out (ND.out none (if_neg (fun h => by have := h.2.1; simp only at this; omega))))
                    clear hk0 ND
                    go_wp2_with fail
                    go_quiet (fail)
                    go_wp2_with fail
                    go_ret
                    exact ⟨ret_bool E.out.symm, (HG.out.alloc _).drewN _⟩
                  · have b0 : decide (clk < 0) = false := decide_eq_false hk0
                    obtain ⟨q, rfl⟩ := Int.eq_ofNat_of_zero_le (show 0 ≤ clk by omega)
                    clear hk0
                    by_cases hk1 : (l.length : Int) ≤ (q : Int)
                    · have b1' : decide (l.length ≤ q) = true := decide_eq_true (by omega)
                      have E := Lib.hid (STP.out (ND.out none (if_neg (fun h => by have := h.2.2.1; simp only at this; omega))))
                      clear hk1 ND
                      go_wp2_with fail
                      go_quiet (fail)
                      go_wp2_with fail
                      go_ret
                      exact ⟨ret_bool E.out.symm, (HG.out.alloc _).drewN _⟩
                    · have b1' : decide (l.length ≤ q) = false := decide_eq_false (by omega)
                      have hql : q < l.length := by omega
                      have hqt : q < t.length := by have := tl.out; omega
                      have tq := RT.out.iat q hqt
                      have th := RT.out.has
                      obtain ⟨bl', ol, eal, _, _, ⟨ac, cc, e2, _, ef, _⟩, _⟩ := clks_gr HE.out.clks HG.out q hql
                      subst eal
                      have lh := has_of_cell e2
                      have KO := Lib.hid (kOf_at hql)
                      have SQ := Lib.hid (sOf_at hqt)
                      obtain ⟨tv, htv⟩ : ∃ tv, t[q] = tv := ⟨_, rfl⟩
                      rw [htv] at tq SQ
                      obtain ⟨nc, hnc⟩ : ∃ nc, l[q].choices.length = nc := ⟨_, rfl⟩
                      rw [hnc] at e2 KO ef
                      unfold Fit at ef
                      have q2 : (q : Int) < l.length := by omega
                      clear htv hnc
                      by_cases hsq : 0 ≤ tv
                      · have b2 : decide (0 ≤ tv) = true := decide_eq_true hsq
                        have E := Lib.hid (STP.out (ND.out none (if_neg (fun h => by have := h.2.2.2.1; simp only [Int.toNat_natCast] at this; rw [SQ.out] at this; omega))))
                        clear hsq ND
                        go_wp2_with fail
                        go_quiet (fail)
                        go_wp2_with fail
                        go_ret
                        exact ⟨ret_bool E.out.symm, (HG.out.alloc _).drewN _⟩
                      · have b2 : decide (0 ≤ tv) = false := decide_eq_false hsq
                        by_cases hnl : nxt.length = nc
                        · subst hnl
                          have b3 : (nxt.length != nxt.length) = false := by simp
                          have hno : NodeOk l t ⟨-1, q, nxt⟩ := ⟨rfl, by simp only; omega, by simp only; omega, by simp only [Int.toNat_natCast]; rw [SQ.out]; omega, by simp only [Int.toNat_natCast]; rw [KO.out]⟩
                          have KD : Hid (∀ R, kidsR b.length i (q : Int) t nxt S nxt.length = R → stepRf l ms b.length i ⟨-1, q, nxt⟩ S = R) := Lib.hid (fun R h => ND.out R (by rw [if_pos hno]; exact h))
                          have KOK : Hid (∀ j, j ≤ nxt.length → ∀ Sj, kidsR b.length i (q : Int) t nxt S j = some Sj → Sj.length = b.length) := Lib.hid (fun j hj Sj h => by
                            obtain ⟨sok, _⟩ := runRf_ok HE.out.chk BP.out i S HRUN.out
                            have := kidsR_ok (c := q) hql PT.out KO.out.symm sok j hj Sj h
                            rw [this.2, SL.out])
                          obtain ⟨X, hX⟩ : ∃ X : Nat, Hid (wr.heap.size = X) := ⟨_, Lib.hid rfl⟩
                          obtain ⟨W4, hW4⟩ : ∃ W4 : World, Hid (W4 = wr.alloc (.cells #[.int .i64 (-1), .int .i64 (q : Int), .slice an nxt.length cn] 81)) := ⟨_, Lib.hid rfl⟩
                          have RX4 : Hid (Row W4 X 81 [.int .i64 (-1), .int .i64 (q : Int), .slice an nxt.length cn]) := Lib.hid (by rw [hW4.out, ← hX.out]; exact Row.new wr _ _)
                          have g4 : Gr wr W4 := by rw [hW4.out]; exact (Gr.refl _).alloc _
                          have S4 := Lib.hid (HS.out.gr g4)
                          have T4 := Lib.hid (RT.out.gr g4)
                          have G4 := Lib.hid (HG.out.trans g4)
                          have xsz : Hid (w.heap.size ≤ X) := Lib.hid (by have := hX.out; have := HG.out.size; omega)
                          clear hsq hno ND g4
                          go_wp2_with fail
                          go_quiet (fail)
                          go_wp2_with fail
                          rw [hX.out, ← hW4.out]
                          have tXS : Hid (X ≠ SG) := Lib.hid (S4.out.ne RX4.out.s (by decide))
                          have tBS : Hid (B ≠ SG) := Lib.hid (S4.out.ne T4.out (by decide))
                          clear d0 d1 d2 hh s0 sf0 sh tq th e2 lh hW4
                          obtain ⟨wp, hwp⟩ : ∃ wp : World, wp = wr := ⟨_, rfl⟩
                          rw [← hwp] at HS HG RT
                          clear hwp
                          go_loopw [122] (fun s122 wk => ∃ (j : Nat) (Sj : Sets), j ≤ nxt.length ∧ s122 = .int .i64 (j : Int) ∧ kidsR b.length i (q : Int) t nxt S j = some Sj ∧ SetsAt w.heap.size wk SG l.length Sj ∧ RowS wk B 3 (nums t) ∧ RowS wk X 81 [.int .i64 (-1), .int .i64 (q : Int), .slice an nxt.length cn] ∧ Gr w wk) (fun s122 _ => nxt.length - (intOf s122).toNat)
                          case atStart => exact ⟨0, S, Nat.zero_le _, rfl, rfl, S4.out.gr ((Gr.refl _).drewN _), T4.out.gr ((Gr.refl _).drewN _), (RX4.out.gr ((Gr.refl _).drewN _)).s, G4.out.drewN _⟩
                          case round =>
                            clear S4 T4 RX4 G4 HS HG RT
                            obtain ⟨j, Sj, hj, rfl, hkr, hst, hrt, hrx, hg⟩ := hrel
                            have HS := Lib.hid hst
                            have HT := Lib.hid hrt
                            have HX := Lib.hid hrx
                            have HG := Lib.hid hg
                            have KR := Lib.hid hkr
                            have sjl := Lib.hid (KOK.out j hj Sj hkr)
                            by_cases hjl : j < nxt.length
                            · obtain ⟨ba, oa, rfl, na, ya⟩ := (SN.out.giI hg).one j hjl
                              have nah := has_of_cell na
                              have j2 : (j : Int) < nxt.length := by omega
                              obtain ⟨y, hy⟩ : ∃ y, nxt[j] = y := ⟨_, rfl⟩
                              have KS : Hid (∀ R, (if y ≤ (i : Int) ∨ (b.length : Int) ≤ y ∨ (Sj.getD y.toNat none).isSome = true then none else some (Sj.set y.toNat (some (t.set q (j : Int))))) = R → kidsR b.length i (q : Int) t nxt S (j + 1) = R) := Lib.hid (fun R h => by
                                simp only [kidsR]
                                rw [hkr]
                                simp only [Option.bind_some, Int.toNat_natCast]
                                have : nxt.getD j 0 = y := by rw [List.getD_eq_getElem?_getD, List.getElem?_eq_getElem hjl, ← hy]; rfl
                                rw [this]; exact h)
                              have BAD := Lib.hid (fun (h : kidsR b.length i (q : Int) t nxt S (j + 1) = none) => STP.out (KD.out none (kidsR_none h nxt.length (by omega))))
                              rw [hy] at na ya
                              unfold Wide at ya
                              clear hkr hrt hrx hg hy hst
                              by_cases hy0 : y ≤ (i : Int)
                              · have c0 : decide (y ≤ (i : Int)) = true := decide_eq_true hy0
                                have E := Lib.hid (BAD.out (KS.out none (if_pos (.inl hy0))))
                                clear hy0 BAD KS
                                go_wp2_with fail
                                go_ret
                                exact ⟨ret_bool E.out.symm, HG.out⟩
                              · have c0 : decide (y ≤ (i : Int)) = false := decide_eq_false hy0
                                obtain ⟨k, rfl⟩ := Int.eq_ofNat_of_zero_le (show 0 ≤ y by omega)
                                have c00 : decide (k ≤ i) = false := decide_eq_false (by omega)
                                by_cases hy1 : b.length ≤ k
                                · have c1 : decide (b.length ≤ k) = true := decide_eq_true hy1
                                  have E := Lib.hid (BAD.out (KS.out none (if_pos (.inr (.inl (by omega))))))
                                  clear hy0 hy1 BAD KS
                                  go_wp2_with fail
                                  go_ret
                                  exact ⟨ret_bool E.out.symm, HG.out⟩
                                · have c1 : decide (b.length ≤ k) = false := decide_eq_false hy1
                                  have k2 : (k : Int) < b.length := by omega
                                  have hks : k < Sj.length := by have := sjl.out; omega
                                  obtain ⟨v, s0, hs0, sf0, sh⟩ := HS.out.get hks
                                  have SK : Hid (Sj.getD k none = Sj[k]) := Lib.hid (by rw [List.getD_eq_getElem?_getD, List.getElem?_eq_getElem hks]; rfl)
                                  cases eS : Sj[k] with
                                  | some u =>
                                    rw [eS] at hs0 SK
                                    obtain ⟨B', c', hv, _, _⟩ := hs0
                                    subst hv
                                    have E := Lib.hid (BAD.out (KS.out none (if_pos (.inr (.inr (by rw [Int.toNat_natCast, SK.out]; rfl))))))
                                    clear hy0 hy1 BAD KS eS
                                    go_wp2_with fail
                                    go_ret
                                    exact ⟨ret_bool E.out.symm, HG.out⟩
                                  | none =>
                                    rw [eS] at hs0 SK
                                    have hv : v = .slice none 0 0 := hs0
                                    subst hv
                                    have KN := Lib.hid (KS.out (some (Sj.set k (some (t.set q (j : Int))))) (by
                                      rw [if_neg, Int.toNat_natCast]
                                      rintro (h | h | h)
                                      · exact hy0 h
                                      · omega
                                      · rw [Int.toNat_natCast, SK.out] at h; cases h))
                                    have CS1 : Hid (∀ j u, (nums t)[j]? = some u → (wr.alloc (.cells #[] 3)).cell? ((⟨B, 0, none⟩ : Addr).add j) = some u) := Lib.hid (slI_cells ((HT.out.alloc _).slI (PT.out.wide HE.out.chk)))
                                    clear hy0 hy1 BAD KS eS hs0
                                    go_wp2_with (first
                                      | (at_builtin; refine wpList_append_fresh _ rfl _ _ 22 rfl 3 i0 (.int .i64 0) 8 Tryz.underlying22 hi hz0 hz1 hz2 ⟨wr.heap.size, 0, none⟩ ⟨B, 0, none⟩ l.length cB (nums t) rfl rfl (by rw [nums_len]; exact tl.out) CS1.out (by omega) (by omega) (by omega) (wr.heap.size + 1) (by simp) ?_; intro cap Z hcap
                                         have R2 := Lib.hid (row_fresh' (wr.alloc (.cells #[] 3)).drew (nums t) Z 3 (wr.heap.size + 1) (by simp [World.drew]))
                                         have G7 : Hid (Gr wr ((wr.alloc (.cells #[] 3)).drew.alloc (.cells ((nums t).toArray ++ Z) 3))) := Lib.hid (((Gr.refl _).alloc _).drew.alloc _)
                                         obtain ⟨N2, hN2⟩ : ∃ N2 : Nat, Hid (wr.heap.size + 1 = N2) := ⟨_, Lib.hid rfl⟩
                                         rw [hN2.out] at R2 ⊢
                                         obtain ⟨W7, hW7⟩ : ∃ W7 : World, ((wr.alloc (.cells #[] 3)).drew.alloc (.cells ((nums t).toArray ++ Z) 3)) = W7 := ⟨_, rfl⟩
                                         rw [hW7] at R2 G7 ⊢
                                         have p0 := cell_gr G7.out s0
                                         have pf := (HS.out.gr G7.out).free k
                                         have ph := has_of_cell p0
                                         have x0 := (HX.out.gr G7.out).cell 1 (by simp)
                                         have xh := has_of_cell x0
                                         have n0 := R2.out.iat q hqt
                                         have nf := R2.out.free q
                                         have nh := R2.out.has
                                         have e1 : ¬ X = SG := tXS.out
                                         have e2 : ¬ SG = X := fun e => tXS.out e.symm
                                         have e3 : ¬ N2 = SG := (HS.out.gr G7.out).ne R2.out (by decide)
                                         have e4 : ¬ SG = N2 := fun e => e3 e.symm
                                         have e5 : ¬ N2 = X := RowS.apart R2.out (HX.out.gr G7.out) (by decide)
                                         have e6 : ¬ X = N2 := fun e => e5 e.symm
                                         simp only [List.getElem_cons_zero, List.getElem_cons_succ] at x0
                                         clear hW7 s0 sf0 sh)
                                      | fail)
                                    have hN2w : wr.heap.size ≤ N2 := by have := hN2.out; omega
                                    have hN2b : w.heap.size ≤ N2 := by have := HG.out.size; omega
                                    have SF := Lib.hid (SetsAt.step (n := 0) (x := (j : Int)) (cap := cap) HS.out G7.out R2.out hN2w hN2b hks hqt)
                                    have TF := Lib.hid (rowS_step (n := 0) (c := q) (k := k) (v := .slice (some ⟨N2, 0, none⟩) l.length cap) (x := .int .i64 (j : Int)) HS.out G7.out R2.out hN2w HT.out (by decide))
                                    have XF := Lib.hid (rowS_step (n := 0) (c := q) (k := k) (v := .slice (some ⟨N2, 0, none⟩) l.length cap) (x := .int .i64 (j : Int)) HS.out G7.out R2.out hN2w HX.out (by decide))
                                    have GF : Hid (Gr w ((W7.setCell ⟨SG, k, none⟩ (.slice (some ⟨N2, 0, none⟩) l.length cap)).setCell ⟨N2, q, none⟩ (.int .i64 (j : Int)))) := Lib.hid (((HG.out.trans G7.out).setc sb.out).setc hN2b)
                                    go_region_with (fail)
                                    all_goals
                                      (go_wp2_with fail
                                       go_roundw
                                       case rel => exact ⟨j + 1, _, by omega, by go_num, KN.out, SF.out.gr (Gr.refl _).drew, TF.out.gr (Gr.refl _).drew, XF.out.gr (Gr.refl _).drew, GF.out.drew⟩
                                       case measure => simp [intOf]; omega)
                            · have hj' : j = nxt.length := by omega
                              subst hj'
                              have N3 := Lib.hid (NXT.out.trans (KD.out (some Sj) KR.out))
                              clear hkr hrt hrx hg hst KD KOK
                              go_wp2_with fail
                              go_roundw
                              case rel => exact ⟨i + 1, Sj, by omega, by go_num, N3.out, HS.out, HG.out⟩
                              case measure => simp [intOf]; omega
                        · have b3 : ((nxt.length : Int) != (nc : Int)) = true := by rw [bne_iff_ne]; omega
                          have b4 : decide (nxt.length = nc) = false := decide_eq_false hnl
                          have b5 : (nxt.length != nc) = true := by rw [bne_iff_ne]; exact hnl
                          have b6 : (nxt.length == nc) = false := by rw [beq_eq_false_iff_ne]; exact hnl
                          have E := Lib.hid (STP.out (ND.out none (if_neg (fun h => by have := h.2.2.2.2; simp only [Int.toNat_natCast] at this; rw [KO.out] at this; omega))))
                          clear hsq hnl ND
                          go_wp2_with fail
                          go_quiet (fail)
                          go_wp2_with fail
                          go_ret
                          exact ⟨ret_bool E.out.symm, (HG.out.alloc _).drewN _⟩
                · have bm : (lim != -1) = true := by simp [hm1]
                  have E := Lib.hid (STP.out (ND.out none (if_neg (fun h => hm1 h.1))))
                  clear hm1 ND hlim
                  go_wp2_with fail
                  go_quiet (fail)
                  go_wp2_with fail
                  go_ret
                  exact ⟨ret_bool E.out.symm, (HG.out.alloc _).drewN _⟩
          · have hi' : i = b.length := by omega
            subst hi'
            have E : Hid (refAns l ms b = true) := Lib.hid (by
              unfold refAns refChk
              rw [hrun]
              have := BP.out
              simp only [Option.isSome_some, Bool.and_true, decide_eq_true_iff]
              intro e; rw [e] at this; simp at this)
            clear hst hrun
            go_wp2_with fail
            go_ret
            exact ⟨ret_bool E.out.symm, hg⟩
end Go.Proofs.YtenehghpmnajpaaGreatDoor

set_option linter.unusedVariables false
set_option linter.unusedSimpArgs false
namespace Go.Proofs.YtenehghpmnajpaaGreatDoor
open Go.RowKit
open Classical
set_option maxRecDepth 100000 in
set_option maxHeartbeats 2000000 in
theorem refLimitsG_any (l : List Clk) (m : List Lmt) (al am : Option Addr) (cl cm : Nat) (w : World) (h : SlOf 5 RClk w al l) (hm : SlOf 3 RLmt w am m) (fl : Fit l.length) (fm : Fit m.length) :
    Calls Tryz.prog 100 #[.slice al l.length cl, .slice am m.length cm] w (Grows w (.bool (decide (LmtsOk l m)))) := by
  have RC := Lib.hid (refCheck_any l al cl w h fl)
  have HM := Lib.hid hm
  obtain ⟨P, hP⟩ : ∃ P : Prop, P = LmtsOk l m := ⟨_, rfl⟩
  rw [← hP]
  have HP := Lib.hid hP
  unfold Fit at fl fm
  clear h hm hP
  by_cases hc : cchk l = 0
  · rw [hc] at RC
    have HC := Lib.hid hc
    clear hc
    by_cases hml : m.length ≤ 32
    · have hmb : decide ((32 : Int) < m.length) = false := decide_eq_false (by omega)
      have hmb2 : decide (32 < m.length) = false := decide_eq_false (by omega)
      go_enter Tryz.func100, Tryz.ntmps100
      go_wp2_with fail
      refine RC.out.mono ?_
      rintro e w1 ⟨rfl, hg1⟩
      have G1 := Lib.hid hg1
      clear hg1 RC
      go_wp2_with fail
      go_loopw [17] (fun i wr => ∃ k : Nat, k ≤ m.length ∧ i = .int .i64 k ∧ Gr w wr ∧ Hid (∀ j (hj : j < m.length), j < k → LmtOk l m[j])) (fun i _ => m.length - (intOf i).toNat)
      case atStart => exact ⟨0, Nat.zero_le _, rfl, G1.out, Lib.hid (fun j _ h => by omega)⟩
      case round =>
        obtain ⟨k, hk, rfl, hg, hdone⟩ := hrel
        have HG := Lib.hid hg
        clear hg
        obtain ⟨wo, rfl⟩ : ∃ wo : World, wo = wr := ⟨_, rfl⟩
        by_cases hlt : k < m.length
        · obtain ⟨b, o, rfl, ⟨c0, _⟩, ⟨c1, _⟩, ⟨c2, _⟩⟩ := lmts_gr HM.out HG.out k hlt
          have hn : Hid (¬ LmtOk l m[k] → ¬ P) := Lib.hid (fun hb hp => hb ((HP.out ▸ hp : LmtsOk l m).2.2 k hlt))
          by_cases q0 : m[k].clock < 0
          · have e1 : decide (m[k].clock < 0) = true := decide_eq_true q0
            have H1 : Hid (¬ P) := Lib.hid (hn.out (fun h => by have := h.1; omega))
            clear q0
            go_wp2_with fail
            go_ret
            exact ⟨by rw [decide_eq_false H1.out]; rfl, HG.out.alloc _⟩
          · have e1 : decide (m[k].clock < 0) = false := decide_eq_false q0
            by_cases q1 : (l.length : Int) ≤ m[k].clock
            · have e2 : decide ((l.length : Int) ≤ m[k].clock) = true := decide_eq_true q1
              have H1 : Hid (¬ P) := Lib.hid (hn.out (fun h => by have := h.2.1; omega))
              clear q0 q1
              go_wp2_with fail
              go_ret
              exact ⟨by rw [decide_eq_false H1.out]; rfl, HG.out.alloc _⟩
            · have e2 : decide ((l.length : Int) ≤ m[k].clock) = false := decide_eq_false q1
              by_cases q2 : m[k].low < 0
              · have e3 : decide (m[k].low < 0) = true := decide_eq_true q2
                have H1 : Hid (¬ P) := Lib.hid (hn.out (fun h => by have := h.2.2.1; omega))
                clear q0 q1 q2
                go_wp2_with fail
                go_ret
                exact ⟨by rw [decide_eq_false H1.out]; rfl, HG.out.alloc _⟩
              · have e3 : decide (m[k].low < 0) = false := decide_eq_false q2
                by_cases q3 : m[k].high < m[k].low
                · have e4 : decide (m[k].high < m[k].low) = true := decide_eq_true q3
                  have H1 : Hid (¬ P) := Lib.hid (hn.out (fun h => by have := h.2.2.2.1; omega))
                  clear q0 q1 q2 q3
                  go_wp2_with fail
                  go_ret
                  exact ⟨by rw [decide_eq_false H1.out]; rfl, HG.out.alloc _⟩
                · have e4 : decide (m[k].high < m[k].low) = false := decide_eq_false q3
                  by_cases q4 : 4000000000 < m[k].high
                  · have e5 : decide (4000000000 < m[k].high) = true := decide_eq_true q4
                    have H1 : Hid (¬ P) := Lib.hid (hn.out (fun h => by have := h.2.2.2.2; omega))
                    clear q0 q1 q2 q3 q4
                    go_wp2_with fail
                    go_ret
                    exact ⟨by rw [decide_eq_false H1.out]; rfl, HG.out.alloc _⟩
                  · have e5 : decide (4000000000 < m[k].high) = false := decide_eq_false q4
                    have OK : Hid (LmtOk l m[k]) := Lib.hid ⟨by omega, by omega, by omega, by omega, by omega⟩
                    clear q0 q1 q2 q3 q4
                    go_wp2_with fail
                    go_roundw
                    case rel =>
                      refine ⟨k + 1, by omega, by go_num, HG.out.alloc _, Lib.hid (fun j hj h => ?_)⟩
                      by_cases e : j = k
                      · subst e; exact OK.out
                      · exact hdone.out j hj (by omega)
                    case measure => simp [intOf]; omega
        · go_wp2_with fail
          go_ret
          refine ⟨?_, HG.out⟩
          have hp : P := by rw [HP.out]; exact ⟨HC.out, hml, fun j hj => hdone.out j hj (by omega)⟩
          rw [decide_eq_true hp]; rfl
    · have hmb : decide ((32 : Int) < m.length) = true := decide_eq_true (by omega)
      have hmb2 : decide (32 < m.length) = true := decide_eq_true (by omega)
      have H1 : Hid (¬ P) := Lib.hid (fun hp => hml (HP.out ▸ hp : LmtsOk l m).2.1)
      clear hml
      go_enter Tryz.func100, Tryz.ntmps100
      go_wp2_with fail
      refine RC.out.mono ?_
      rintro e w1 ⟨rfl, hg1⟩
      go_wp2_with fail
      go_ret
      exact ⟨by rw [decide_eq_false H1.out]; rfl, hg1⟩
  · have H1 : Hid (¬ P) := Lib.hid (fun hp => hc (HP.out ▸ hp : LmtsOk l m).1)
    have hb : (cchk l != 0) = true := by simp [hc]
    go_enter Tryz.func100, Tryz.ntmps100
    go_wp2_with fail
    refine RC.out.mono ?_
    rintro e w1 ⟨rfl, hg1⟩
    go_wp2_with fail
    go_ret
    exact ⟨by rw [decide_eq_false H1.out]; rfl, hg1⟩
/-- The error that comes first. -/
noncomputable def bgE (l : List Clk) (ms : List Lmt) : Int := if cchk l = 0 then (if LmtsOk l ms then 0 else 1) else cchk l
theorem bgE_zero {l : List Clk} {ms : List Lmt} (h : bgE l ms = 0) : LmtsOk l ms := by
  unfold bgE at h
  split at h
  · split at h
    · assumption
    · cases h
  · contradiction
set_option maxRecDepth 100000 in
set_option maxHeartbeats 1000000 in
theorem beginG_any (l : List Clk) (ms : List Lmt) (al am : Option Addr) (cl cm : Nat) (w : World) (h : SlOf 5 RClk w al l) (hm : SlOf 3 RLmt w am ms) (fl : Fit l.length) (fm : Fit ms.length) :
    Calls Tryz.prog 57 #[.slice al l.length cl, .slice am ms.length cm] w (Grows w (.int .i64 (bgE l ms))) := by
  have RC := Lib.hid (pCheck_any l al cl w h fl)
  have RL := Lib.hid (fun W (hW : Gr w W) => pLimits_any l ms al am cl cm W (clks_gr h hW) fl (lmts_gr hm hW) fm)
  obtain ⟨B, hB⟩ : ∃ B, bgE l ms = B := ⟨_, rfl⟩
  rw [hB]
  have HB := Lib.hid hB
  clear h hm hB
  by_cases hc : cchk l = 0
  · rw [hc] at RC
    obtain ⟨y, hy⟩ : ∃ y, decide (LmtsOk l ms) = y := ⟨_, rfl⟩
    rw [hy] at RL
    have B1 : Hid (B = if y = true then 0 else 1) := Lib.hid (by rw [← HB.out, bgE, if_pos hc, ← hy]; simp)
    clear hc hy HB
    go_enter Tryz.func57, Tryz.ntmps57
    go_wp2_with fail
    refine RC.out.mono ?_
    rintro e w1 ⟨rfl, hg1⟩
    have G1 := Lib.hid hg1
    clear hg1 RC
    go_wp2_with fail
    refine (RL.out w1 G1.out).mono ?_
    rintro e w2 ⟨rfl, hg2⟩
    have G2 := Lib.hid (G1.out.trans hg2)
    clear hg2 RL
    cases y with
    | true =>
      go_wp2_with fail
      go_ret
      exact ⟨by rw [B1.out]; rfl, G2.out⟩
    | false =>
      go_wp2_with fail
      go_ret
      exact ⟨by rw [B1.out]; rfl, G2.out⟩
  · have B1 : Hid (B = cchk l) := Lib.hid (by rw [← HB.out, bgE, if_neg hc])
    have hb : (cchk l != 0) = true := by simp [hc]
    clear HB
    go_enter Tryz.func57, Tryz.ntmps57
    go_wp2_with fail
    refine RC.out.mono ?_
    rintro e w1 ⟨rfl, hg1⟩
    go_wp2_with fail
    go_ret
    exact ⟨by rw [B1.out]; rfl, hg1⟩
set_option maxRecDepth 100000 in
set_option maxHeartbeats 1000000 in
theorem refBeginG_any (l : List Clk) (ms : List Lmt) (al am : Option Addr) (cl cm : Nat) (w : World) (h : SlOf 5 RClk w al l) (hm : SlOf 3 RLmt w am ms) (fl : Fit l.length) (fm : Fit ms.length) :
    Calls Tryz.prog 61 #[.slice al l.length cl, .slice am ms.length cm] w (Grows w (.int .i64 (bgE l ms))) := by
  have RC := Lib.hid (refCheck_any l al cl w h fl)
  have RL := Lib.hid (fun W (hW : Gr w W) => refLimitsG_any l ms al am cl cm W (clks_gr h hW) (lmts_gr hm hW) fl fm)
  obtain ⟨B, hB⟩ : ∃ B, bgE l ms = B := ⟨_, rfl⟩
  rw [hB]
  have HB := Lib.hid hB
  clear h hm hB
  by_cases hc : cchk l = 0
  · rw [hc] at RC
    obtain ⟨y, hy⟩ : ∃ y, decide (LmtsOk l ms) = y := ⟨_, rfl⟩
    rw [hy] at RL
    have B1 : Hid (B = if y = true then 0 else 1) := Lib.hid (by rw [← HB.out, bgE, if_pos hc, ← hy]; simp)
    clear hc hy HB
    go_enter Tryz.func61, Tryz.ntmps61
    go_wp2_with fail
    refine RC.out.mono ?_
    rintro e w1 ⟨rfl, hg1⟩
    have G1 := Lib.hid hg1
    clear hg1 RC
    go_wp2_with fail
    refine (RL.out w1 G1.out).mono ?_
    rintro e w2 ⟨rfl, hg2⟩
    have G2 := Lib.hid (G1.out.trans hg2)
    clear hg2 RL
    cases y with
    | true =>
      go_wp2_with fail
      go_ret
      exact ⟨by rw [B1.out]; rfl, G2.out⟩
    | false =>
      go_wp2_with fail
      go_ret
      exact ⟨by rw [B1.out]; rfl, G2.out⟩
  · have B1 : Hid (B = cchk l) := Lib.hid (by rw [← HB.out, bgE, if_neg hc])
    have hb : (cchk l != 0) = true := by simp [hc]
    clear HB
    go_enter Tryz.func61, Tryz.ntmps61
    go_wp2_with fail
    refine RC.out.mono ?_
    rintro e w1 ⟨rfl, hg1⟩
    go_wp2_with fail
    go_ret
    exact ⟨by rw [B1.out]; rfl, hg1⟩
end Go.Proofs.YtenehghpmnajpaaGreatDoor
