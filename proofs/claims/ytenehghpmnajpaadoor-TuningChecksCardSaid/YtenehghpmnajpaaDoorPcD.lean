/- Contract of tuning.Check, for right clocks and limits. -/
import Derived.Test.YtenehghpmnajpaaDoorPcB
import Derived.Laws.EntriesVeiled
set_option linter.unusedVariables false
set_option linter.unusedSimpArgs false
namespace Go.Proofs.YtenehghpmnajpaaDoor
open Go.RowKit
open Classical

/-- The answer of the program's check. -/
noncomputable def prgAns (l : List Clk) (ms : List Lmt) (b : List Brn) : Bool := decide (b ≠ []) && prgChk l ms b
theorem all_id (N : List Bool) : N.all id = !decide (false ∈ N) := by
  rw [Bool.eq_iff_iff]
  simp only [List.all_eq_true, id, Bool.not_eq_true', decide_eq_false_iff_not]
  constructor
  · intro h q; have := h _ q; cases this
  · intro h x hx
    cases x with
    | true => rfl
    | false => exact absurd hx h
set_option maxRecDepth 100000 in
set_option maxHeartbeats 4000000 in
theorem pChk_any (l : List Clk) (ms : List Lmt) (b : List Brn) (al am ab : Option Addr) (cl cm cb : Nat) (w : World) (henv : Env w l ms al am) (h1 : 1 ≤ l.length) (hb : SlOf 3 RBrn w ab b) (hbl : b.length ≤ 100000) :
    Calls Tryd.prog 39 #[.slice al l.length cl, .slice am ms.length cm, .slice ab b.length cb] w (Grows w (.bool (prgAns l ms b))) := by
  have hl := small_len (cchk_zero henv.chk).1
  have hml := henv.lims.1
  have BG := Lib.hid (fun W (hW : Gr w W) => begin17_any l ms al am cl cm W (henv.gr hW))
  have AL := Lib.hid (fun W (hW : Gr w W) => all_any l ms al am cl cm W (clks_gr henv.clks hW) (lmts_gr henv.lmts hW) hl hml)
  have HE := Lib.hid henv
  have HBR := Lib.hid hb
  have infoB : (Tryd.prog.info? 4).map (fun i => (i.zero, i.size, i.bytes)) = some (some (.bool false), 1, 1) := by kernel_rfl
  have hmk := run_make_row' (P := Tryd.prog) 49 4 (.bool false) 1 Tryd.underlying49 infoB rfl .i64 .i64 b.length (by omega) (by omega)
  clear henv hb
  go_enter Tryd.func39, Tryd.ntmps39
  go_wp2_with fail
  obtain ⟨CB, hCB⟩ : ∃ CB : Nat, Hid (w.heap.size = CB) := ⟨_, Lib.hid rfl⟩
  obtain ⟨W1, hW1⟩ : ∃ W1 : World, Hid (W1 = (w.alloc (.cells #[.slice al l.length cl] 25)).alloc (.cells #[.slice ab b.length cb] 69)) := ⟨_, Lib.hid rfl⟩
  rw [← hW1.out, hCB.out]
  have RC : Hid (Row W1 CB 25 [.slice al l.length cl]) := Lib.hid (by rw [hW1.out, ← hCB.out]; exact (Row.new w #[.slice al l.length cl] _).alloc _)
  have RBB : Hid (Row W1 (CB + 1) 69 [.slice ab b.length cb]) := Lib.hid (by
    rw [hW1.out]
    exact row_new' _ #[.slice ab b.length cb] 69 _ (by simp [hCB.out]))
  have G1 : Hid (Gr w W1) := Lib.hid (by rw [hW1.out]; exact ((Gr.refl _).alloc _).alloc _)
  clear hW1
  refine (BG.out W1 G1.out).mono ?_
  rintro e w2 ⟨rfl, hg2⟩
  have G2 := Lib.hid (G1.out.trans hg2)
  have g2 := Lib.hid hg2
  have c0 := (RC.out.gr hg2).cell 0 (by simp)
  have c1 := (RBB.out.gr hg2).cell 0 (by simp)
  have ch0 := has_of_cell c0
  have ch1 := has_of_cell c1
  simp only [List.getElem_cons_zero] at c0 c1
  clear hg2 BG
  by_cases hb0 : b.length = 0
  · have E : Hid (prgAns l ms b = false) := Lib.hid (by unfold prgAns; rw [List.length_eq_zero_iff.1 hb0]; simp)
    have bz : ((b.length : Int) == 0) = true := by simp [hb0]
    clear hb0
    go_wp2_with fail
    go_ret
    exact ⟨ret_bool E.out.symm, G2.out⟩
  · have bz : ((b.length : Int) == 0) = false := by rw [beq_eq_false_iff_ne]; omega
    have BP : Hid (0 < b.length) := Lib.hid (by omega)
    have AL2 := Lib.hid (AL.out w2 G2.out)
    clear hb0 AL
    go_wp2_with fail
    refine AL2.out.mono ?_
    rintro e w3 ⟨v, rfl, ho, hg3⟩
    obtain ⟨aL, cL, rfl, hbd⟩ := bnds_of_owns ho
    have G3 := Lib.hid (G2.out.trans hg3)
    have g3 := Lib.hid (g2.out.trans hg3)
    have HBD := Lib.hid hbd
    have c0 := cell_gr hg3 c0
    have c1 := cell_gr hg3 c1
    have ch0 := has_of_cell c0
    have ch1 := has_of_cell c1
    clear ho hbd hg3 AL2
    go_wp2_with fail
    obtain ⟨LB, hLB⟩ : ∃ LB : Nat, Hid (w3.heap.size = LB) := ⟨_, Lib.hid rfl⟩
    rw [hLB.out]
    obtain ⟨FV, hFV⟩ : ∃ FV : Value, Hid (FV = .func (.func 76) #[] #[.pointer (some ⟨CB + 1, 0, none⟩), .pointer (some ⟨LB, 0, none⟩), .pointer (some ⟨CB, 0, none⟩), .pointer (some ⟨LB + 1 + 1, 0, none⟩), .pointer (some ⟨LB + 1 + 1 + 1, 0, none⟩)]) := ⟨_, Lib.hid rfl⟩
    obtain ⟨W4, hW4⟩ : ∃ W4 : World, Hid (W4 = (((w3.alloc (.cells #[.slice aL (allB l ms).length cL] 107)).alloc (.cells (madeCells #[.bool false] b.length) 4)).alloc (.cells #[.slice (some ⟨LB + 1, 0, none⟩) b.length b.length] 49)).alloc (.cells #[.func (.func 76) #[] #[.pointer (some ⟨CB + 1, 0, none⟩), .pointer (some ⟨LB, 0, none⟩), .pointer (some ⟨CB, 0, none⟩), .pointer (some ⟨LB + 1 + 1, 0, none⟩), .pointer (some ⟨LB + 1 + 1 + 1, 0, none⟩)]] 112)) := ⟨_, Lib.hid rfl⟩
    rw [← hW4.out]
    have BX : Hid (Bx W4 (.slice ab b.length cb) (.slice aL (allB l ms).length cL) (.slice al l.length cl) b.length (CB + 1) LB CB (LB + 1 + 1) (LB + 1 + 1 + 1) (LB + 1)) := Lib.hid (by
      have g34 : Gr w3 W4 := by rw [hW4.out]; exact ((((Gr.refl _).alloc _).alloc _).alloc _).alloc _
      refine ⟨(RBB.out.gr g3.out).gr g34, ?_, (RC.out.gr g3.out).gr g34, ?_, ?_⟩
      · rw [hW4.out, ← hLB.out]; exact (((Row.new w3 #[.slice aL (allB l ms).length cL] _).alloc _).alloc _).alloc _
      · rw [hW4.out]; exact (row_new' _ #[.slice (some ⟨LB + 1, 0, none⟩) b.length b.length] 49 _ (by simp [hLB.out])).alloc _
      · rw [hW4.out]; exact row_new' _ #[_] 112 _ (by simp [hLB.out]))
    have RN4 : Hid (Row W4 (LB + 1) 4 (bools (List.replicate b.length false))) := Lib.hid (by
      have := row_new' (w3.alloc (.cells #[.slice aL (allB l ms).length cL] 107)) (madeCells #[.bool false] b.length) 4 (LB + 1) (by simp [hLB.out])
      have e : (madeCells #[Value.bool false] b.length).toList = bools (List.replicate b.length false) := by
        apply List.ext_getElem
        · simp [madeCells, bools]
        · intro i h1 h2
          simp [madeCells, Nat.mod_one, bools]
      rw [e] at this
      rw [hW4.out]; exact (this.alloc _).alloc _)
    have G34 : Hid (Gr w3 W4) := Lib.hid (by rw [hW4.out]; exact ((((Gr.refl _).alloc _).alloc _).alloc _).alloc _)
    have STA := Lib.hid (fun W (hW : Gr W4 W) => start_any l al cl W HE.out.chk (clks_gr HE.out.clks ((G3.out.trans G34.out).trans hW)) h1)
    have RT := Lib.hid (fun W SB (hW : Gr W4 W) (hS : RowS W SB 3 (nums (startS l))) => right_any l ms b w3 al am ab aL cl cm cb cL (CB + 1) LB CB (LB + 1 + 1) (LB + 1 + 1 + 1) (LB + 1) (HE.out.gr G3.out) (HBR.out.gr RBrn.mono G3.out) HBD.out h1 hbl (by rw [hLB.out]; omega) b.length 0 (startS l) (List.replicate b.length false) W SB l.length BP.out (by omega) (startS_ok HE.out.chk) (by simp) (G34.out.trans hW) (BX.out.gr hW) (RN4.out.gr hW) hS)
    have PA : Hid (prgAns l ms b = prgChk l ms b) := Lib.hid (by
      have := BP.out
      unfold prgAns
      rw [decide_eq_true (by intro e; rw [e] at this; simp at this), Bool.true_and])
    have r4 := BX.out.rb.cell 0 (by simp)
    have k4 := BX.out.cb.cell 0 (by simp)
    have n4 := BX.out.nb.cell 0 (by simp)
    have rh4 := has_of_cell r4
    have kh4 := has_of_cell k4
    have nh4 := has_of_cell n4
    simp only [List.getElem_cons_zero] at r4 k4 n4
    clear hW4 c0 c1 ch0 ch1 hmk hFV
    cases hv : visP l ms b b.length 0 (startS l) (List.replicate b.length false) with
    | none =>
      have E : Hid (prgAns l ms b = false) := Lib.hid (by rw [PA.out]; unfold prgChk; rw [hv])
      have RT' : Hid (∀ W SB, Gr W4 W → RowS W SB 3 (nums (startS l)) → Calls Tryd.prog 76 #[.int .i64 0, .slice (some ⟨SB, 0, none⟩) l.length l.length, .pointer (some ⟨CB + 1, 0, none⟩), .pointer (some ⟨LB, 0, none⟩), .pointer (some ⟨CB, 0, none⟩), .pointer (some ⟨LB + 1 + 1, 0, none⟩), .pointer (some ⟨LB + 1 + 1 + 1, 0, none⟩)] W (fun e w' => e = .returned (.bool false) ∧ W.grownBy w' (some (LB + 1)))) := Lib.hid (fun W SB hW hS => (RT.out W SB hW hS).mono fun e w' h => ⟨by rw [h.1, hv]; rfl, h.2.1⟩)
      clear hv RT PA
      go_region_with (first
        | (go_at_call 75; refine (STA.out _ (by repeat (first | with_reducible exact Gr.refl _ | with_reducible refine Gr.drew ?_ | with_reducible refine Gr.drewN _ ?_ | with_reducible refine Gr.xt _ _ ?_ | with_reducible refine Gr.alloc _ ?_))).mono ?_; rintro e w8 ⟨SB, rfl, hs8, hb8, hg8⟩; have S8 := Lib.hid hs8; have G8 := Lib.hid ((show Gr W4 _ from (by repeat (first | with_reducible exact Gr.refl _ | with_reducible refine Gr.drew ?_ | with_reducible refine Gr.drewN _ ?_ | with_reducible refine Gr.xt _ _ ?_ | with_reducible refine Gr.alloc _ ?_))).trans hg8); have r8 := cell_gr G8.out r4; have k8 := cell_gr G8.out k4; have rh8 := has_of_cell r8; have kh8 := has_of_cell k8; clear hs8 hb8 hg8)
        | (go_at_call 76; refine (RT'.out _ SB (G8.out.trans (by repeat (first | with_reducible exact Gr.refl _ | with_reducible refine Gr.drew ?_ | with_reducible refine Gr.drewN _ ?_ | with_reducible refine Gr.xt _ _ ?_ | with_reducible refine Gr.alloc _ ?_))) (S8.out.gr (by repeat (first | with_reducible exact Gr.refl _ | with_reducible refine Gr.drew ?_ | with_reducible refine Gr.drewN _ ?_ | with_reducible refine Gr.xt _ _ ?_ | with_reducible refine Gr.alloc _ ?_)))).mono ?_; rintro e w9 ⟨rfl, gb9⟩; have GF := Lib.hid (((G3.out.trans G34.out).trans (G8.out.trans (by repeat (first | with_reducible exact Gr.refl _ | with_reducible refine Gr.drew ?_ | with_reducible refine Gr.drewN _ ?_ | with_reducible refine Gr.xt _ _ ?_ | with_reducible refine Gr.alloc _ ?_)))).grown gb9 (fun k e => by rw [← Option.some.inj e]; have := G3.out.size; have := hLB.out; omega)); clear gb9))
      all_goals
        (go_wp2_with fail
         go_ret
         exact ⟨ret_bool E.out.symm, GF.out⟩)
    | some N9 =>
      have E : Hid (prgAns l ms b = !decide (false ∈ N9.drop 1)) := Lib.hid (by rw [PA.out]; unfold prgChk; rw [hv]; exact all_id _)
      obtain ⟨res, hres⟩ : ∃ res, decide (false ∈ N9.drop 1) = res := ⟨_, rfl⟩
      rw [hres] at E
      have RT' : Hid (∀ W SB, Gr W4 W → RowS W SB 3 (nums (startS l)) → Calls Tryd.prog 76 #[.int .i64 0, .slice (some ⟨SB, 0, none⟩) l.length l.length, .pointer (some ⟨CB + 1, 0, none⟩), .pointer (some ⟨LB, 0, none⟩), .pointer (some ⟨CB, 0, none⟩), .pointer (some ⟨LB + 1 + 1, 0, none⟩), .pointer (some ⟨LB + 1 + 1 + 1, 0, none⟩)] W (fun e w' => e = .returned (.bool true) ∧ W.grownBy w' (some (LB + 1)) ∧ N9.length = b.length ∧ Row w' (LB + 1) 4 (bools N9))) := Lib.hid (fun W SB hW hS => (RT.out W SB hW hS).mono fun e w' h => ⟨by rw [h.1, hv]; rfl, h.2.1, h.2.2 N9 hv⟩)
      obtain ⟨pv, hpv⟩ : ∃ pv : Option Addr, (if b.length = 1 then some ⟨LB + 1, 0, none⟩ else some ⟨LB + 1, 1, none⟩) = pv := ⟨_, rfl⟩
      have CT : Hid (∀ W, N9.length = b.length → Row W (LB + 1) 4 (bools N9) → Calls Tryd.prog 81 #[.slice pv (b.length - 1) (b.length - 1), .bool false] W (fun e w' => e = .returned (.bool res) ∧ W = w')) := Lib.hid (fun W hn hr => by
        have hx : SlOf 1 RB W pv (N9.drop 1) := fun k hk => by
          rw [List.length_drop] at hk
          refine ⟨LB + 1, 1, by rw [← hpv, if_neg (by omega)], ?_⟩
          unfold RB
          rw [Nat.mul_one, hr.bat (1 + k) (by omega), List.getElem_drop]
        have := containsB_any (N9.drop 1) _ (b.length - 1) false W hx (by rw [List.length_drop, hn]; unfold Fit; omega)
        rw [List.length_drop, hn, hres] at this
        exact this)
      have bp := BP.out
      have l1 : (1 : Int) ≤ (b.length : Int) := by omega
      have l2 : 1 ≤ b.length := by omega
      clear hv RT PA hres
      cases res with
      | true =>
          go_region_with (first
            | (go_at_call 75; refine (STA.out _ (by repeat (first | with_reducible exact Gr.refl _ | with_reducible refine Gr.drew ?_ | with_reducible refine Gr.drewN _ ?_ | with_reducible refine Gr.xt _ _ ?_ | with_reducible refine Gr.alloc _ ?_))).mono ?_; rintro e w8 ⟨SB, rfl, hs8, hb8, hg8⟩; have S8 := Lib.hid hs8; have G8 := Lib.hid ((show Gr W4 _ from (by repeat (first | with_reducible exact Gr.refl _ | with_reducible refine Gr.drew ?_ | with_reducible refine Gr.drewN _ ?_ | with_reducible refine Gr.xt _ _ ?_ | with_reducible refine Gr.alloc _ ?_))).trans hg8); have r8 := cell_gr G8.out r4; have k8 := cell_gr G8.out k4; have rh8 := has_of_cell r8; have kh8 := has_of_cell k8; clear hs8 hb8 hg8)
            | (go_at_call 76; refine (RT'.out _ SB (G8.out.trans (by repeat (first | with_reducible exact Gr.refl _ | with_reducible refine Gr.drew ?_ | with_reducible refine Gr.drewN _ ?_ | with_reducible refine Gr.xt _ _ ?_ | with_reducible refine Gr.alloc _ ?_))) (S8.out.gr (by repeat (first | with_reducible exact Gr.refl _ | with_reducible refine Gr.drew ?_ | with_reducible refine Gr.drewN _ ?_ | with_reducible refine Gr.xt _ _ ?_ | with_reducible refine Gr.alloc _ ?_)))).mono ?_; rintro e w9 ⟨rfl, gb9, hl9, hr9⟩; have GF := Lib.hid (((G3.out.trans G34.out).trans (G8.out.trans (by repeat (first | with_reducible exact Gr.refl _ | with_reducible refine Gr.drew ?_ | with_reducible refine Gr.drewN _ ?_ | with_reducible refine Gr.xt _ _ ?_ | with_reducible refine Gr.alloc _ ?_)))).grown gb9 (fun k e => by rw [← Option.some.inj e]; have := G3.out.size; have := hLB.out; omega)); have X9 := (BX.out.gr (G8.out.trans (by repeat (first | with_reducible exact Gr.refl _ | with_reducible refine Gr.drew ?_ | with_reducible refine Gr.drewN _ ?_ | with_reducible refine Gr.xt _ _ ?_ | with_reducible refine Gr.alloc _ ?_)))).grown (RN4.out.gr (G8.out.trans (by repeat (first | with_reducible exact Gr.refl _ | with_reducible refine Gr.drew ?_ | with_reducible refine Gr.drewN _ ?_ | with_reducible refine Gr.xt _ _ ?_ | with_reducible refine Gr.alloc _ ?_)))).s gb9; have n9 := X9.nb.cell 0 (by simp); have nh9 := has_of_cell n9; simp only [List.getElem_cons_zero] at n9; have R9 := Lib.hid hr9; have L9 := Lib.hid hl9; clear gb9 X9 hr9 hl9)
            | (go_at_call 81; refine (CT.out _ L9.out (R9.out.gr (by repeat (first | with_reducible exact Gr.refl _ | with_reducible refine Gr.drew ?_ | with_reducible refine Gr.drewN _ ?_ | with_reducible refine Gr.xt _ _ ?_ | with_reducible refine Gr.alloc _ ?_)))).mono ?_; rintro e w10 ⟨rfl, rfl⟩))
          all_goals
            (go_wp2_with fail
             go_ret
             exact ⟨ret_bool E.out.symm, GF.out⟩)
      | false =>
          go_region_with (first
            | (go_at_call 75; refine (STA.out _ (by repeat (first | with_reducible exact Gr.refl _ | with_reducible refine Gr.drew ?_ | with_reducible refine Gr.drewN _ ?_ | with_reducible refine Gr.xt _ _ ?_ | with_reducible refine Gr.alloc _ ?_))).mono ?_; rintro e w8 ⟨SB, rfl, hs8, hb8, hg8⟩; have S8 := Lib.hid hs8; have G8 := Lib.hid ((show Gr W4 _ from (by repeat (first | with_reducible exact Gr.refl _ | with_reducible refine Gr.drew ?_ | with_reducible refine Gr.drewN _ ?_ | with_reducible refine Gr.xt _ _ ?_ | with_reducible refine Gr.alloc _ ?_))).trans hg8); have r8 := cell_gr G8.out r4; have k8 := cell_gr G8.out k4; have rh8 := has_of_cell r8; have kh8 := has_of_cell k8; clear hs8 hb8 hg8)
            | (go_at_call 76; refine (RT'.out _ SB (G8.out.trans (by repeat (first | with_reducible exact Gr.refl _ | with_reducible refine Gr.drew ?_ | with_reducible refine Gr.drewN _ ?_ | with_reducible refine Gr.xt _ _ ?_ | with_reducible refine Gr.alloc _ ?_))) (S8.out.gr (by repeat (first | with_reducible exact Gr.refl _ | with_reducible refine Gr.drew ?_ | with_reducible refine Gr.drewN _ ?_ | with_reducible refine Gr.xt _ _ ?_ | with_reducible refine Gr.alloc _ ?_)))).mono ?_; rintro e w9 ⟨rfl, gb9, hl9, hr9⟩; have GF := Lib.hid (((G3.out.trans G34.out).trans (G8.out.trans (by repeat (first | with_reducible exact Gr.refl _ | with_reducible refine Gr.drew ?_ | with_reducible refine Gr.drewN _ ?_ | with_reducible refine Gr.xt _ _ ?_ | with_reducible refine Gr.alloc _ ?_)))).grown gb9 (fun k e => by rw [← Option.some.inj e]; have := G3.out.size; have := hLB.out; omega)); have X9 := (BX.out.gr (G8.out.trans (by repeat (first | with_reducible exact Gr.refl _ | with_reducible refine Gr.drew ?_ | with_reducible refine Gr.drewN _ ?_ | with_reducible refine Gr.xt _ _ ?_ | with_reducible refine Gr.alloc _ ?_)))).grown (RN4.out.gr (G8.out.trans (by repeat (first | with_reducible exact Gr.refl _ | with_reducible refine Gr.drew ?_ | with_reducible refine Gr.drewN _ ?_ | with_reducible refine Gr.xt _ _ ?_ | with_reducible refine Gr.alloc _ ?_)))).s gb9; have n9 := X9.nb.cell 0 (by simp); have nh9 := has_of_cell n9; simp only [List.getElem_cons_zero] at n9; have R9 := Lib.hid hr9; have L9 := Lib.hid hl9; clear gb9 X9 hr9 hl9)
            | (go_at_call 81; refine (CT.out _ L9.out (R9.out.gr (by repeat (first | with_reducible exact Gr.refl _ | with_reducible refine Gr.drew ?_ | with_reducible refine Gr.drewN _ ?_ | with_reducible refine Gr.xt _ _ ?_ | with_reducible refine Gr.alloc _ ?_)))).mono ?_; rintro e w10 ⟨rfl, rfl⟩))
          all_goals
            (go_wp2_with fail
             go_ret
             exact ⟨ret_bool E.out.symm, GF.out⟩)
end Go.Proofs.YtenehghpmnajpaaDoor
