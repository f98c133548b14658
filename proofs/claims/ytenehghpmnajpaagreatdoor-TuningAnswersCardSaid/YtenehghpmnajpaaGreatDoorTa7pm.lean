/- Lemmas and contracts for the proof of TuningAnswers (several texts in one, printed by wip/tools/pack.py): Ky. -/
import Derived.Test.YtenehghpmnajpaaGreatDoorTa7pl
import Derived.Test.YtenehghpmnajpaaGreatDoorTa7pj
/-! Plain: partial settings with all gates open. Contract of the reference's decided. -/
set_option linter.unusedVariables false
set_option linter.unusedSimpArgs false
namespace Go.Proofs.YtenehghpmnajpaaGreatDoor
open Go.RowKit
open Classical
def kindOf (l : List Clk) (i : Nat) : Int := match l[i]? with | some c => c.kind | none => 0
theorem kindOf_at {l : List Clk} {i : Nat} (h : i < l.length) : kindOf l i = l[i].kind := by simp [kindOf, List.getElem?_eq_getElem h]
/-- The same choices, but each gate is open. -/
def openG (l : List Clk) (p : List Int) : List Int := (List.range p.length).map fun i => if kindOf l i = 5 ∧ sOf p i ≠ -1 then 1 else sOf p i
theorem openG_at {l : List Clk} {p : List Int} {i : Nat} (hi : i < p.length) : sOf (openG l p) i = if kindOf l i = 5 ∧ sOf p i ≠ -1 then 1 else sOf p i := by
  rw [sOf_at (by simp [openG]; exact hi)]
  simp [openG]
theorem gate_cho {c : Clk} {i : Nat} (hc : ClkOk c i) (h : c.kind = 5) : c.choices = [0, 1] := by
  rcases hc.2.1 with ⟨h', _⟩ | ⟨h', _⟩ | ⟨h', _⟩ | ⟨_, _, h'⟩
  · omega
  · omega
  · omega
  · exact h'
theorem openG_ok {l : List Clk} {p : List Int} (hc : cchk l = 0) (hp : PrtOk l p) : PrtOk l (openG l p) := by
  obtain ⟨_, ok, _, _⟩ := cchk_zero hc
  refine ⟨by simp [openG, hp.1], fun i hi => ?_⟩
  rw [openG_at (by rw [hp.1]; exact hi)]
  split
  · rename_i h
    right
    obtain ⟨_, hck⟩ := ok i hi
    have := gate_cho hck (by rw [← kindOf_at hi]; exact h.1)
    rw [kOf_at hi, this]; simp
  · exact hp.2 i hi
/-- The rate that a clock would have, were all gates open. -/
theorem dec_openG {l : List Clk} {p : List Int} (hc : cchk l = 0) (hp : PrtOk l p) : ∀ i, i < l.length →
    (∀ f, dec l p i = .opn f → True) ∧ ∀ r, dec l p i = .isr r → ∃ n d, dec l (openG l p) i = .isr (some (n, d)) ∧ ∀ y, r = some y → y = (n, d) := by
  obtain ⟨_, ok, _, _⟩ := cchk_zero hc
  intro i
  induction i using Nat.strongRecOn with
  | ind i ih =>
    intro hi
    refine ⟨fun _ _ => trivial, fun r hr => ?_⟩
    have hpi : i < p.length := by rw [hp.1]; exact hi
    have hg := openG_at (l := l) hpi
    obtain ⟨_, hck⟩ := ok i hi
    by_cases ho : sOf p i = -1
    · rw [dec_open ho] at hr; cases hr
    · have ho2 : sOf (openG l p) i ≠ -1 := by
        rw [hg]; split
        · omega
        · exact ho
      by_cases h1 : l[i].kind = 1
      · have hk : sOf (openG l p) i = sOf p i := by rw [hg, kindOf_at hi, if_neg (by omega)]
        rw [dec_fix hi ho h1] at hr
        injection hr with hr
        refine ⟨_, _, by rw [dec_fix hi ho2 h1, hk], fun y hy => ?_⟩
        rw [← hr] at hy; injection hy with hy; exact hy.symm
      · obtain ⟨p0, p1, e⟩ := dec_par' hc hp hi ho h1
        obtain ⟨q0, q1, e2⟩ := dec_par' hc (openG_ok hc hp) hi ho2 h1
        have ep : parC l[i] (sOf (openG l p) i) = parC l[i] (sOf p i) := by
          rw [hg, kindOf_at hi]
          split
          · rename_i h
            simp [parC, h.1]
          · rfl
        rw [ep] at e2
        rw [e] at hr
        cases hd : dec l p (parC l[i] (sOf p i)).toNat with
        | opn f => rw [hd] at hr; cases hr
        | isr r0 =>
          rw [hd] at hr
          injection hr with hr
          obtain ⟨n, d, e3, h3⟩ := (ih _ (by omega) (by omega)).2 r0 hd
          rw [e3] at e2
          rw [e2]
          simp only [Dec.thn]
          by_cases h5 : l[i].kind = 5
          · have hk : sOf (openG l p) i = 1 := by rw [hg, kindOf_at hi, if_pos ⟨h5, ho⟩]
            have hcc := gate_cho hck h5
            have hx : chC l[i] (sOf (openG l p) i) = 1 := by rw [hk, chC, hcc]; rfl
            refine ⟨n, d, by rw [hx, step_4 (by omega) (by omega) (fun _ => by omega)], fun y hy => ?_⟩
            rw [← hr] at hy
            cases r0 with
            | none => cases hy
            | some z =>
              obtain ⟨a, b⟩ := z
              have := h3 _ rfl
              simp only [stepP, scaleR] at hy
              split at hy
              · omega
              · split at hy
                · omega
                · split at hy
                  · cases hy
                  · injection hy with hy; rw [← hy]; exact this
          · have hk : sOf (openG l p) i = sOf p i := by rw [hg, kindOf_at hi, if_neg (by omega)]
            rw [hk]
            obtain ⟨v, hv⟩ : ∃ v, stepP l[i] (chC l[i] (sOf p i)) (some (n, d)) = some v := by
              simp only [stepP, scaleR]
              split
              · exact ⟨_, rfl⟩
              · split
                · exact ⟨_, rfl⟩
                · rw [if_neg (by omega)]; exact ⟨_, rfl⟩
            refine ⟨v.1, v.2, by rw [hv], fun y hy => ?_⟩
            rw [← hr] at hy
            cases r0 with
            | none => cases hy
            | some z =>
              rw [h3 _ rfl, hv] at hy
              injection hy with hy
              exact hy.symm
end Go.Proofs.YtenehghpmnajpaaGreatDoor
/-! Contract of the reference's decided (printed by wip/tools/decr.py). -/
set_option linter.unusedVariables false
set_option linter.unusedSimpArgs false
namespace Go.Proofs.YtenehghpmnajpaaGreatDoor
open Go.RowKit
open Classical
/-- What the reference's decided returns: a rate, whether it runs, whether it is decided. -/
def decRV (n d : Int) (on is : Bool) : Value := .tuple #[.agg #[.int .i64 n, .int .i64 d], .bool on, .bool is]
def decR (l : List Clk) (p : List Int) (i : Nat) : Value :=
  match dec l p i, dec l (openG l p) i with
  | .isr r, .isr v => decRV (numR v) (denR v) r.isSome true
  | _, _ => decRV 0 0 false false
theorem decR_opn {l : List Clk} {p : List Int} {i f : Nat} (h : dec l p i = .opn f) : decR l p i = decRV 0 0 false false := by simp [decR, h]
theorem decR_isr {l : List Clk} {p : List Int} {i : Nat} {r : Rt} {n d : Int} (h : dec l p i = .isr r) (h2 : dec l (openG l p) i = .isr (some (n, d))) : decR l p i = decRV n d r.isSome true := by simp [decR, h, h2, numR, denR]
theorem openG_cho {l : List Clk} {p : List Int} {i : Nat} (hi : i < p.length) (hl : i < l.length) (h : l[i].kind ≠ 5) : sOf (openG l p) i = sOf p i := by
  rw [openG_at hi, kindOf_at hl, if_neg (fun q => h q.1)]
/-- One step: what the parent gives, and what comes of it. -/
theorem decR_step {l : List Clk} {p : List Int} (hc : cchk l = 0) (hp : PrtOk l p) {i q : Nat} (hi : i < l.length) (ho : sOf p i ≠ -1) (h1 : l[i].kind ≠ 1) (hq : parC l[i] (sOf p i) = (q : Int)) {r : Rt} {n d : Int} (hr : dec l p q = .isr r) (hv : dec l (openG l p) q = .isr (some (n, d))) :
    (l[i].kind = 2 → decR l p i = decRV (oN n d (chC l[i] (sOf p i))) (oD n d (chC l[i] (sOf p i))) r.isSome true) ∧
    (l[i].kind = 3 → decR l p i = decRV (tN n d (chC l[i] (sOf p i))) (tD n d (chC l[i] (sOf p i))) r.isSome true) ∧
    (l[i].kind = 4 → decR l p i = decRV n d r.isSome true) ∧
    (l[i].kind = 5 → decR l p i = decRV n d (r.isSome && chC l[i] (sOf p i) == 1) true) := by
  obtain ⟨_, ok, _, _⟩ := cchk_zero hc
  obtain ⟨_, hck⟩ := ok i hi
  have hpi : i < p.length := by rw [hp.1]; exact hi
  obtain ⟨p0, p1, e⟩ := dec_par' hc hp hi ho h1
  have hqq : (parC l[i] (sOf p i)).toNat = q := by omega
  rw [hqq, hr] at e
  have hg := openG_at (l := l) hpi
  rw [kindOf_at hi] at hg
  have ho2 : sOf (openG l p) i ≠ -1 := by
    rw [hg]; split
    · omega
    · exact ho
  obtain ⟨_, _, e2⟩ := dec_par' hc (openG_ok hc hp) hi ho2 h1
  have ep : parC l[i] (sOf (openG l p) i) = parC l[i] (sOf p i) := by
    rw [hg]
    split
    · rename_i h
      simp [parC, h.1]
    · rfl
  rw [ep, hqq, hv] at e2
  simp only [Dec.thn] at e e2
  have hn5 : l[i].kind ≠ 5 → sOf (openG l p) i = sOf p i := openG_cho hpi hi
  refine ⟨fun h => ?_, fun h => ?_, fun h => ?_, fun h => ?_⟩
  · rw [hn5 (by omega)] at e2
    have e3 : stepP l[i] (chC l[i] (sOf p i)) (some (n, d)) = some (oN n d (chC l[i] (sOf p i)), oD n d (chC l[i] (sOf p i))) := by simp [stepP, scaleR, h]
    rw [e3] at e2
    rw [decR_isr e e2]
    cases r <;> simp [stepP, scaleR, h]
  · rw [hn5 (by omega)] at e2
    have e3 : stepP l[i] (chC l[i] (sOf p i)) (some (n, d)) = some (tN n d (chC l[i] (sOf p i)), tD n d (chC l[i] (sOf p i))) := by simp [stepP, scaleR, h]
    rw [e3] at e2
    rw [decR_isr e e2]
    cases r <;> simp [stepP, scaleR, h]
  · rw [step_4 (by omega) (by omega) (fun h => by omega)] at e e2
    rw [decR_isr e e2]
  · have hcc := gate_cho hck h
    have hk : sOf (openG l p) i = 1 := by rw [hg, if_pos ⟨h, ho⟩]
    have hx : chC l[i] (sOf (openG l p) i) = 1 := by rw [hk, chC, hcc]; rfl
    rw [hx, step_4 (by omega) (by omega) (fun _ => by omega)] at e2
    rw [decR_isr e e2]
    obtain ⟨k0, k1⟩ := hp.cho hi ho
    rw [hcc] at k1
    have hk2 : sOf p i = 0 ∨ sOf p i = 1 := by simp at k1; omega
    rcases hk2 with hk2 | hk2
    · have hx0 : chC l[i] (sOf p i) = 0 := by rw [hk2, chC, hcc]; rfl
      rw [hx0, step_5 h rfl]; simp
    · have hx0 : chC l[i] (sOf p i) = 1 := by rw [hk2, chC, hcc]; rfl
      rw [hx0, step_4 (by omega) (by omega) (fun _ => by omega)]; simp
set_option maxRecDepth 100000 in
set_option maxHeartbeats 4000000 in
theorem refDecided_any (l : List Clk) (p : List Int) (al aS : Option Addr) (cl cs : Nat) (hc : cchk l = 0) (hp : PrtOk l p) : ∀ i, i < l.length → ∀ w, SlOf 5 RClk w al l → SlOf 1 RI w aS p →
    Calls Tryz.prog 117 #[.slice al l.length cl, .slice aS p.length cs, .int .i64 (i : Int)] w (Grows w (decR l p i)) := by
  obtain ⟨nb, ok, pr, fs⟩ := cchk_zero hc
  have hl := small_len nb
  intro i
  induction i using Nat.strongRecOn with
  | ind i ih =>
    intro hi w h hs
    have IH := Lib.hid ih
    have H := Lib.hid h
    have HS := Lib.hid hs
    have hpi : i < p.length := by rw [hp.1]; exact hi
    have lp : p.length = l.length := hp.1
    rw [lp]
    rw [lp] at IH
    obtain ⟨bs, os, eS, ⟨q1, y1⟩⟩ := hs.one i hpi
    obtain ⟨fp, fc⟩ := small_at nb hi
    have i2 : (i : Int) < l.length := by omega
    have hx1 := has_of_cell q1
    rw [← sOf_at hpi] at q1
    obtain ⟨BR, hBR⟩ : ∃ BR : Nat, Hid (w.heap.size = BR) := ⟨_, Lib.hid rfl⟩
    have nh := Lib.hid (show True from trivial)
    have n0 := Lib.hid (show True from trivial)
    have n1 := Lib.hid (show True from trivial)
    by_cases ho : sOf p i = -1
    · have D := Lib.hid (decR_opn (dec_open (l := l) ho))
      rw [ho] at q1
      subst eS
      clear ih h hs hc hp nb ok pr fs y1
      rw [D.out]
      go_enter Tryz.func117, Tryz.ntmps117
      go_wp2_with fail
      refine bodyPost_ret (v := decRV 0 0 false false) ?_ rfl ⟨by rfl, ?_⟩
      · simp (maxDischargeDepth := 9) [results, Tryz.results117, decRV, numR, denR, go_sem, nh, n0, n1]
      · repeat (first | with_reducible exact G5.out | with_reducible exact Gr.refl _ | with_reducible refine Gr.setc (by first | with_reducible exact Nat.le_refl _ | omega) ?_ | with_reducible refine Gr.xt _ _ ?_ | with_reducible refine Gr.alloc _ ?_ | with_reducible refine Gr.drewN _ ?_)
    · obtain ⟨_, hck⟩ := ok i hi
      obtain ⟨k0, k1⟩ := hp.cho hi ho
      obtain ⟨hkk, e⟩ := ch_of k0 k1
      obtain ⟨b, o, rfl, ⟨c0, _⟩, ⟨ap, cp, c1, c1l, c1f, sp⟩, ⟨ac, cc, c2, c2l, c2f, sc⟩, ⟨c3, _⟩, ⟨c4, _⟩⟩ := h i hi
      obtain ⟨bc, oc, rfl, ⟨q2, y2⟩⟩ := sc.one _ hkk
      rw [← e] at q2 y2
      have PAR := Lib.hid (fun W (hW : Gr w W) => refParent_any l[i] i (sOf p i) ap (some ⟨bc, oc, none⟩) cp cc W (sp.giI hW) (sc.giI hW) hck k0 k1 fp fc)
      have GH := Lib.hid (fun (h5 : l[i].kind = 5) => gate_cho hck h5)
      obtain ⟨j, hj'⟩ : ∃ j : Nat, sOf p i = j := ⟨_, (Int.toNat_of_nonneg k0).symm⟩
      obtain ⟨x, hx⟩ : ∃ x : Int, chC l[i] (sOf p i) = x := ⟨_, rfl⟩
      rw [hx] at q2 y2
      have e1 : (sOf p i).toNat = j := by omega
      rw [e1] at q2
      rw [hj'] at q1 PAR
      have j2 : (j : Int) < l[i].choices.length := by omega
      have hx2 := has_of_cell q2
      have hx3 := has_of_cell c0
      have HX := Lib.hid hx
      have HJ := Lib.hid hj'
      unfold Wide at y2
      have HO := Lib.hid ho
      have GG := Lib.hid (fun (ho2 : sOf (openG l p) i ≠ -1) (h1 : l[i].kind = 1) => openG_cho hpi hi (by omega : l[i].kind ≠ 5))
      have OG : Hid (l[i].kind = 1 → decR l p i = decRV x 1 true true) := Lib.hid (fun h1 => by
        have e5 := openG_cho hpi hi (show l[i].kind ≠ 5 by omega)
        rw [decR_isr (dec_fix hi ho h1) (by rw [dec_fix hi (by rw [e5]; exact ho) h1, e5]), hx]; rfl)
      by_cases h1 : l[i].kind = 1
      · have D := Lib.hid (OG.out h1)
        have hp1 : parC l[i] (j : Int) = -1 := by rw [parC, if_pos h1]
        rw [hp1] at PAR
        subst eS
        clear ih h hs hc hp nb ok pr fs y1 sp sc hkk e e1 h1 ho hck k0 k1 hx hj' c1f c2f IH GG OG hp1
        rw [D.out]
        go_enter Tryz.func117, Tryz.ntmps117
        go_wp2_with fail
        go_quiet (fail)
        go_wp2_with fail
        obtain ⟨W3, hW3⟩ : ∃ W3 : World, Hid (W3 = (((w.alloc (.cells #[.int .i64 0, .int .i64 0] 93)).alloc (.cells #[.int .i64 l[i].kind, .slice ap l[i].parents.length cp, .slice (some ⟨bc, oc, none⟩) l[i].choices.length cc, .int .i64 l[i].low, .int .i64 l[i].high] 79)).drewN nq)) := ⟨_, Lib.hid rfl⟩
        rw [← hW3.out, hBR.out]
        have G3 : Hid (Gr w W3) := Lib.hid (by rw [hW3.out]; exact (((Gr.refl _).alloc _).alloc _).drewN _)
        have R3 : Hid (Row W3 BR 93 [.int .i64 0, .int .i64 0]) := Lib.hid (by rw [hW3.out, ← hBR.out]; exact ((Row.new w _ _).alloc _).drewN _)
        have C3 : Hid (Row W3 (BR + 1) 79 [.int .i64 l[i].kind, .slice ap l[i].parents.length cp, .slice (some ⟨bc, oc, none⟩) l[i].choices.length cc, .int .i64 l[i].low, .int .i64 l[i].high]) := Lib.hid (by rw [hW3.out]; exact (row_new' _ _ _ _ (by rw [← hBR.out]; simp)).drewN _)
        have m0 := C3.out.cell 0 (by simp)
        have m1 := C3.out.cell 1 (by simp)
        have m2 := C3.out.cell 2 (by simp)
        have m3 := C3.out.cell 3 (by simp)
        have m4 := C3.out.cell 4 (by simp)
        have mh := C3.out.has
        simp only [List.getElem_cons_zero, List.getElem_cons_succ] at m0 m1 m2 m3 m4
        have t1 := cell_gr G3.out q1
        have th := has_of_cell t1
        clear hW3 q1 q2 c0 c1 c2 c3 c4 hx1 hx2 hx3
        refine wp_region_grows (by kernel_rfl) (by kernel_rfl) ?_
        repeat (go_big_quiet_step (first | (go_at_call 104; exact calls_grows (PAR.out _ (G3.out.xt _ _)))))
        refine wpQuiet_nil ?_
        rintro _ ⟨⟨O, dd⟩, rfl⟩
        obtain ⟨W4, hW4⟩ : ∃ W4 : World, Hid (W4 = xt W3 O dd) := ⟨_, Lib.hid rfl⟩
        rw [← hW4.out]
        have g34 : Gr W3 W4 := by rw [hW4.out]; exact (Gr.refl _).xt O dd
        have G4 : Hid (Gr w W4) := Lib.hid (G3.out.trans g34)
        have R4 := Lib.hid (R3.out.gr g34)
        have C4 := Lib.hid (C3.out.gr g34)
        have nh := R4.out.has
        have n0 := R4.out.cell 0 (by simp)
        have n1 := R4.out.cell 1 (by simp)
        have f0 := R4.out.free 0
        have f1 := R4.out.free 1
        simp only [List.getElem_cons_zero, List.getElem_cons_succ] at n0 n1
        have brl : w.heap.size ≤ BR := by rw [hBR.out]; exact Nat.le_refl _
        clear hW4 g34 m0 m1 m2 m3 m4 mh t1 th
        go_wp2_with fail
        refine bodyPost_ret (v := decRV x 1 true true) ?_ rfl ⟨by rfl, ?_⟩
        · simp (maxDischargeDepth := 9) [results, Tryz.results117, decRV, numR, denR, go_sem, nh, n0, n1]
        · repeat (first | with_reducible exact G4.out | with_reducible exact Gr.refl _ | with_reducible refine Gr.setc (by first | with_reducible exact Nat.le_refl _ | omega) ?_ | with_reducible refine Gr.xt _ _ ?_ | with_reducible refine Gr.alloc _ ?_ | with_reducible refine Gr.drewN _ ?_)
      · obtain ⟨p0, p1, _⟩ := dec_par' hc hp hi ho h1
        obtain ⟨q, hq⟩ : ∃ q : Nat, parC l[i] (sOf p i) = q := ⟨_, (Int.toNat_of_nonneg p0).symm⟩
        have hqi : q < i := by omega
        have hqq : parC l[i] (j : Int) = (q : Int) := by rw [← hj']; exact hq
        rw [hqq] at PAR
        have IHq := Lib.hid (IH.out q hqi (by omega))
        have DO : Hid (∀ f, dec l p q = .opn f → decR l p i = decRV 0 0 false false) := Lib.hid (fun f hf => by
          refine decR_opn (f := f) ?_
          obtain ⟨_, _, e9⟩ := dec_par' hc hp hi ho h1
          rw [e9, hq, Int.toNat_natCast, hf]; rfl)
        have DS : Hid (∀ r, dec l p q = .isr r → ∃ n d, decR l p q = decRV n d r.isSome true ∧ validB n d = true ∧
            (l[i].kind = 2 → decR l p i = decRV (oN n d x) (oD n d x) r.isSome true) ∧ (l[i].kind = 3 → decR l p i = decRV (tN n d x) (tD n d x) r.isSome true) ∧ (l[i].kind = 4 → decR l p i = decRV n d r.isSome true) ∧ (l[i].kind = 5 → decR l p i = decRV n d (r.isSome && x == 1) true)) := Lib.hid (fun r hr => by
          obtain ⟨n, d, e8, _⟩ := (dec_openG hc hp q (by omega)).2 r hr
          have := decR_step hc hp hi ho h1 hq hr e8
          rw [hx] at this
          exact ⟨n, d, decR_isr hr e8, ((dec_good hc (openG_ok hc hp) (show q < l.length by omega) e8).2 n d rfl).1, this⟩)
        have KI : Hid (l[i].kind = 2 ∨ l[i].kind = 3 ∨ l[i].kind = 4 ∨ l[i].kind = 5) := Lib.hid (by rcases hck.2.1 with ⟨h, _⟩ | ⟨h, _⟩ | ⟨h, _⟩ | ⟨h, _⟩ <;> omega)
        have q2' : decide ((q : Int) < 0) = false := decide_eq_false (by omega)
        subst eS
        clear ih h hs hc hp nb ok pr fs y1 sp sc hkk e e1 h1 ho hck k0 k1 hx hj' c1f c2f IH p0 p1 hq hqq HO GG OG GH HJ HX
        obtain ⟨dq, hdq⟩ : ∃ dq, dec l p q = dq := ⟨_, rfl⟩
        obtain ⟨DV, hDV⟩ : ∃ DV, decR l p q = DV := ⟨_, rfl⟩
        obtain ⟨DI, hDI⟩ : ∃ DI, decR l p i = DI := ⟨_, rfl⟩
        have VO : Hid (∀ f, dq = .opn f → DV = decRV 0 0 false false) := Lib.hid (fun f hf => by rw [← hDV]; exact decR_opn (by rw [hdq, hf]))
        rw [hdq] at DO DS
        rw [hDV] at DS IHq
        rw [hDI] at DS DO ⊢
        clear hdq hDV hDI
        go_enter Tryz.func117, Tryz.ntmps117
        go_wp2_with fail
        go_quiet (fail)
        go_wp2_with fail
        obtain ⟨W3, hW3⟩ : ∃ W3 : World, Hid (W3 = (((w.alloc (.cells #[.int .i64 0, .int .i64 0] 93)).alloc (.cells #[.int .i64 l[i].kind, .slice ap l[i].parents.length cp, .slice (some ⟨bc, oc, none⟩) l[i].choices.length cc, .int .i64 l[i].low, .int .i64 l[i].high] 79)).drewN nq)) := ⟨_, Lib.hid rfl⟩
        rw [← hW3.out, hBR.out]
        have G3 : Hid (Gr w W3) := Lib.hid (by rw [hW3.out]; exact (((Gr.refl _).alloc _).alloc _).drewN _)
        have R3 : Hid (Row W3 BR 93 [.int .i64 0, .int .i64 0]) := Lib.hid (by rw [hW3.out, ← hBR.out]; exact ((Row.new w _ _).alloc _).drewN _)
        have C3 : Hid (Row W3 (BR + 1) 79 [.int .i64 l[i].kind, .slice ap l[i].parents.length cp, .slice (some ⟨bc, oc, none⟩) l[i].choices.length cc, .int .i64 l[i].low, .int .i64 l[i].high]) := Lib.hid (by rw [hW3.out]; exact (row_new' _ _ _ _ (by rw [← hBR.out]; simp)).drewN _)
        have m0 := C3.out.cell 0 (by simp)
        have m1 := C3.out.cell 1 (by simp)
        have m2 := C3.out.cell 2 (by simp)
        have m3 := C3.out.cell 3 (by simp)
        have m4 := C3.out.cell 4 (by simp)
        have mh := C3.out.has
        simp only [List.getElem_cons_zero, List.getElem_cons_succ] at m0 m1 m2 m3 m4
        have t1 := cell_gr G3.out q1
        have th := has_of_cell t1
        clear hW3 q1 q2 c0 c1 c2 c3 c4 hx1 hx2 hx3
        refine wp_region_grows (by kernel_rfl) (by kernel_rfl) ?_
        repeat (go_big_quiet_step (first | (go_at_call 104; exact calls_grows (PAR.out _ (G3.out.xt _ _)))))
        refine wpQuiet_nil ?_
        rintro _ ⟨⟨O, dd⟩, rfl⟩
        obtain ⟨W4, hW4⟩ : ∃ W4 : World, Hid (W4 = xt W3 O dd) := ⟨_, Lib.hid rfl⟩
        rw [← hW4.out]
        have g34 : Gr W3 W4 := by rw [hW4.out]; exact (Gr.refl _).xt O dd
        have G4 : Hid (Gr w W4) := Lib.hid (G3.out.trans g34)
        have R4 := Lib.hid (R3.out.gr g34)
        have C4 := Lib.hid (C3.out.gr g34)
        have nh := R4.out.has
        have n0 := R4.out.cell 0 (by simp)
        have n1 := R4.out.cell 1 (by simp)
        have f0 := R4.out.free 0
        have f1 := R4.out.free 1
        simp only [List.getElem_cons_zero, List.getElem_cons_succ] at n0 n1
        have brl : w.heap.size ≤ BR := by rw [hBR.out]; exact Nat.le_refl _
        clear hW4 g34 m0 m1 m2 m3 m4 mh t1 th
        go_wp2_with fail
        refine (IHq.out W4 (clks_gr H.out G4.out) (HS.out.giI G4.out)).mono ?_
        rintro e w5 ⟨rfl, hg5⟩
        have R5 := Lib.hid (R4.out.gr hg5)
        have C5 := Lib.hid (C4.out.gr hg5)
        have G5 := Lib.hid (G4.out.trans hg5)
        clear hg5 nh n0 n1 f0 f1
        cases dq with
        | opn f =>
          rw [VO.out f rfl]
          have D := Lib.hid (DO.out f rfl)
          have r5 := R5.out.alloc (.cells #[.int .i64 0, .int .i64 0] 93)
          have n0 := R5.out.cell 0 (by simp)
          have n1 := R5.out.cell 1 (by simp)
          have f0 := R5.out.free 0
          have f1 := R5.out.free 1
          have nh := R5.out.has
          simp only [List.getElem_cons_zero, List.getElem_cons_succ] at n0 n1
          simp only [decRV]
          go_wp2_with fail
          refine bodyPost_ret (v := decRV 0 0 false false) ?_ rfl ⟨by rw [D.out], ?_⟩
          · simp (maxDischargeDepth := 9) [results, Tryz.results117, decRV, numR, denR, go_sem, nh, n0, n1]
          · repeat (first | with_reducible exact G5.out | with_reducible exact Gr.refl _ | with_reducible refine Gr.setc (by first | with_reducible exact Nat.le_refl _ | omega) ?_ | with_reducible refine Gr.xt _ _ ?_ | with_reducible refine Gr.alloc _ ?_ | with_reducible refine Gr.drewN _ ?_)
        | isr r =>
          obtain ⟨n, d, e8, hv, K2, K3, K4, K5⟩ := DS.out r rfl
          obtain ⟨v1, v2, v3, v4, v5⟩ := valid_parts hv
          rw [e8]
          obtain ⟨on, hon⟩ : ∃ on, r.isSome = on := ⟨_, rfl⟩
          rw [hon] at K2 K3 K4 K5 ⊢
          clear hv v5 DS DO VO e8 hon
          have n0 := R5.out.cell 0 (by simp)
          have n1 := R5.out.cell 1 (by simp)
          have f0 := R5.out.free 0
          have f1 := R5.out.free 1
          have nh := R5.out.has
          have k0 := C5.out.cell 0 (by simp)
          have kh := C5.out.has
          simp only [List.getElem_cons_zero, List.getElem_cons_succ] at n0 n1 k0
          have btl := G5.out.size
          simp only [decRV]
          rcases KI.out with h | h | h | h
          · have D := Lib.hid (K2 h)
            have c2' : (l[i].kind == 2) = true := by simp [h]
            have c3' : (l[i].kind == 3) = false := by simp [h]
            have c5' : (l[i].kind == 5) = false := by simp [h]
            clear h K2 K3 K4 K5 KI
            go_wp2_with fail
            refine (refOver_any n d x _ (by omega) (by omega) (by omega) (by omega)).mono ?_
            rintro e w' ⟨rfl, O1, D1, rfl⟩
            go_wp2_with fail
            refine bodyPost_ret (v := decRV (oN n d x) (oD n d x) on true) ?_ rfl ⟨by rw [D.out], ?_⟩
            · simp (maxDischargeDepth := 9) [results, Tryz.results117, decRV, numR, denR, go_sem, nh, n0, n1]
            · repeat (first | with_reducible exact G5.out | with_reducible exact Gr.refl _ | with_reducible refine Gr.setc (by first | with_reducible exact Nat.le_refl _ | omega) ?_ | with_reducible refine Gr.xt _ _ ?_ | with_reducible refine Gr.alloc _ ?_ | with_reducible refine Gr.drewN _ ?_)
          · have D := Lib.hid (K3 h)
            have c2' : (l[i].kind == 2) = false := by simp [h]
            have c3' : (l[i].kind == 3) = true := by simp [h]
            have c5' : (l[i].kind == 5) = false := by simp [h]
            clear h K2 K3 K4 K5 KI
            go_wp2_with fail
            refine (refTimes_any n d x _ (by omega) (by omega) (by omega) (by omega)).mono ?_
            rintro e w' ⟨rfl, O1, D1, rfl⟩
            go_wp2_with fail
            refine bodyPost_ret (v := decRV (tN n d x) (tD n d x) on true) ?_ rfl ⟨by rw [D.out], ?_⟩
            · simp (maxDischargeDepth := 9) [results, Tryz.results117, decRV, numR, denR, go_sem, nh, n0, n1]
            · repeat (first | with_reducible exact G5.out | with_reducible exact Gr.refl _ | with_reducible refine Gr.setc (by first | with_reducible exact Nat.le_refl _ | omega) ?_ | with_reducible refine Gr.xt _ _ ?_ | with_reducible refine Gr.alloc _ ?_ | with_reducible refine Gr.drewN _ ?_)
          · have D := Lib.hid (K4 h)
            have c2' : (l[i].kind == 2) = false := by simp [h]
            have c3' : (l[i].kind == 3) = false := by simp [h]
            have c5' : (l[i].kind == 5) = false := by simp [h]
            clear h K2 K3 K4 K5 KI
            go_wp2_with fail
            refine bodyPost_ret (v := decRV (n) (d) on true) ?_ rfl ⟨by rw [D.out], ?_⟩
            · simp (maxDischargeDepth := 9) [results, Tryz.results117, decRV, numR, denR, go_sem, nh, n0, n1]
            · repeat (first | with_reducible exact G5.out | with_reducible exact Gr.refl _ | with_reducible refine Gr.setc (by first | with_reducible exact Nat.le_refl _ | omega) ?_ | with_reducible refine Gr.xt _ _ ?_ | with_reducible refine Gr.alloc _ ?_ | with_reducible refine Gr.drewN _ ?_)
          · have D := Lib.hid (K5 h)
            have c2' : (l[i].kind == 2) = false := by simp [h]
            have c3' : (l[i].kind == 3) = false := by simp [h]
            have c5' : (l[i].kind == 5) = true := by simp [h]
            clear h K2 K3 K4 K5 KI
            cases on with
            | false =>
              have D2 : Hid (DI = decRV n d false true) := Lib.hid (by rw [D.out]; simp)
              go_wp2_with fail
              refine bodyPost_ret (v := decRV n d false true) ?_ rfl ⟨by rw [D2.out], ?_⟩
              · simp (maxDischargeDepth := 9) [results, Tryz.results117, decRV, numR, denR, go_sem, nh, n0, n1]
              · repeat (first | with_reducible exact G5.out | with_reducible exact Gr.refl _ | with_reducible refine Gr.setc (by first | with_reducible exact Nat.le_refl _ | omega) ?_ | with_reducible refine Gr.xt _ _ ?_ | with_reducible refine Gr.alloc _ ?_ | with_reducible refine Gr.drewN _ ?_)
            | true =>
              obtain ⟨xb, hxb⟩ : ∃ xb, (x == 1) = xb := ⟨_, rfl⟩
              have D2 : Hid (DI = decRV n d xb true) := Lib.hid (by rw [D.out, hxb]; simp)
              cases xb
              · go_wp2_with fail
                refine bodyPost_ret (v := decRV n d false true) ?_ rfl ⟨by rw [D2.out], ?_⟩
                · simp (maxDischargeDepth := 9) [results, Tryz.results117, decRV, numR, denR, go_sem, nh, n0, n1]
                · repeat (first | with_reducible exact G5.out | with_reducible exact Gr.refl _ | with_reducible refine Gr.setc (by first | with_reducible exact Nat.le_refl _ | omega) ?_ | with_reducible refine Gr.xt _ _ ?_ | with_reducible refine Gr.alloc _ ?_ | with_reducible refine Gr.drewN _ ?_)
              · go_wp2_with fail
                refine bodyPost_ret (v := decRV n d true true) ?_ rfl ⟨by rw [D2.out], ?_⟩
                · simp (maxDischargeDepth := 9) [results, Tryz.results117, decRV, numR, denR, go_sem, nh, n0, n1]
                · repeat (first | with_reducible exact G5.out | with_reducible exact Gr.refl _ | with_reducible refine Gr.setc (by first | with_reducible exact Nat.le_refl _ | omega) ?_ | with_reducible refine Gr.xt _ _ ?_ | with_reducible refine Gr.alloc _ ?_ | with_reducible refine Gr.drewN _ ?_)
end Go.Proofs.YtenehghpmnajpaaGreatDoor
/-! Contract of tuning.decided. -/
set_option linter.unusedVariables false
set_option linter.unusedSimpArgs false
namespace Go.Proofs.YtenehghpmnajpaaGreatDoor
open Go.RowKit
open Classical
/-- What tuning.decided returns: a rate, a clock, whether it is decided. -/
def decV : Dec → Value
  | .opn f => .tuple #[.agg #[.int .i64 0, .int .i64 0], .int .i64 (f : Int), .bool false]
  | .isr r => .tuple #[.agg #[.int .i64 (numR r), .int .i64 (denR r)], .int .i64 0, .bool true]
set_option maxRecDepth 100000 in
set_option maxHeartbeats 4000000 in
theorem decided_any (l : List Clk) (p : List Int) (al aS : Option Addr) (cl cs : Nat) (hc : cchk l = 0) (hp : PrtOk l p) : ∀ i, i < l.length → ∀ w, SlOf 5 RClk w al l → SlOf 1 RI w aS p →
    Calls Tryz.prog 73 #[.slice al l.length cl, .slice aS p.length cs, .int .i64 (i : Int)] w (Grows w (decV (dec l p i))) := by
  obtain ⟨nb, ok, pr, fs⟩ := cchk_zero hc
  have hl := small_len nb
  intro i
  induction i using Nat.strongRecOn with
  | ind i ih =>
    intro hi w h hs
    have IH := Lib.hid ih
    have H := Lib.hid h
    have HS := Lib.hid hs
    have CK := Lib.hid hc
    have PO := Lib.hid hp
    have hpi : i < p.length := by rw [hp.1]; exact hi
    have lp : p.length = l.length := hp.1
    rw [lp]
    rw [lp] at IH
    obtain ⟨bs, os, eS, ⟨q1, y1⟩⟩ := hs.one i hpi
    obtain ⟨fp, fc⟩ := small_at nb hi
    have i2 : (i : Int) < l.length := by omega
    have hx1 := has_of_cell q1
    rw [← sOf_at hpi] at q1
    have MO := Lib.hid (show ∀ r, dec l p i = .isr r → GoodR r from fun r hr => (dec_good hc hp hi hr).2)
    by_cases ho : sOf p i = -1
    · have D := Lib.hid (dec_open (l := l) ho)
      rw [ho] at q1
      subst eS
      clear ih h hs hc hp nb ok pr fs MO y1
      rw [D.out]
      go_enter Tryz.func73, Tryz.ntmps73
      go_wp2_with fail
      refine bodyPost_ret (v := decV (.opn i)) ?_ rfl ⟨rfl, (Gr.refl _).alloc _⟩
      simp [results, Tryz.results73, decV, go_sem]
    · obtain ⟨_, hck⟩ := ok i hi
      obtain ⟨k0, k1⟩ := hp.cho hi ho
      obtain ⟨hkk, e⟩ := ch_of k0 k1
      obtain ⟨b, o, rfl, ⟨c0, _⟩, ⟨ap, cp, c1, c1l, c1f, sp⟩, ⟨ac, cc, c2, c2l, c2f, sc⟩, ⟨c3, _⟩, ⟨c4, _⟩⟩ := h i hi
      obtain ⟨bc, oc, rfl, ⟨q2, y2⟩⟩ := sc.one _ hkk
      rw [← e] at q2 y2
      obtain ⟨j, hj'⟩ : ∃ j : Nat, sOf p i = j := ⟨_, (Int.toNat_of_nonneg k0).symm⟩
      obtain ⟨x, hx⟩ : ∃ x : Int, chC l[i] (sOf p i) = x := ⟨_, rfl⟩
      rw [hx] at q2 y2
      have e1 : (sOf p i).toNat = j := by omega
      rw [e1] at q2
      rw [hj'] at q1
      have j2 : (j : Int) < l[i].choices.length := by omega
      have jn : ((j : Int) == -1) = false := beq_eq_false_iff_ne.2 (by omega)
      have hx2 := has_of_cell q2
      have hx3 := has_of_cell c0
      have HX := Lib.hid hx
      have HJ := Lib.hid hj'
      unfold Wide at y2
      have HO := Lib.hid ho
      by_cases h1 : l[i].kind = 1
      · have D := Lib.hid (dec_fix hi ho h1)
        have b1 : (l[i].kind == 1) = true := by simp [h1]
        subst eS
        clear ih h hs hc hp nb ok pr fs MO y1 sp sc hkk e e1 h1 ho hck k0 k1 hx hj' c1f c2f
        rw [D.out, HX.out]
        go_enter Tryz.func73, Tryz.ntmps73
        go_wp2_with fail
        go_quiet (fail)
        go_wp2_with fail
        refine bodyPost_ret (v := decV (.isr (some (x, 1)))) ?_ rfl ⟨rfl, ?_⟩
        · simp [results, Tryz.results73, decV, numR, denR, go_sem]
        · exact (((((Gr.refl _).alloc _).alloc _).drewN _).setc (Nat.le_refl _)).setc (Nat.le_refl _)
      · obtain ⟨p0, p1, D⟩ := dec_par' hc hp hi ho h1
        obtain ⟨hm, _, _⟩ := par_lt hck h1 k0 k1
        have hl0 : 0 < l[i].parents.length := List.length_pos_of_mem hm
        obtain ⟨bp, op, rfl, ⟨q3, _⟩⟩ := sp.one 0 hl0
        rw [Nat.add_zero] at q3
        have hx4 := has_of_cell q3
        obtain ⟨q, hq⟩ : ∃ q : Nat, parC l[i] (sOf p i) = q := ⟨_, (Int.toNat_of_nonneg p0).symm⟩
        have hqi : q < i := by omega
        have hqq : (parC l[i] (sOf p i)).toNat = q := by omega
        rw [hqq] at D
        have IHq := Lib.hid (IH.out q hqi (by omega))
        have GD : Hid (∀ r, dec l p q = .isr r → GoodR r) := Lib.hid (fun r hr => (dec_good hc hp (show q < l.length by omega) hr).2)
        have D' := Lib.hid D
        have b1 : (l[i].kind == 1) = false := by simp [h1]
        have l0 : (0 : Int) < l[i].parents.length := by omega
        have PA : Hid ((l[i].kind = 4 ∧ ∃ y : Nat, x = (y : Int) ∧ (y : Int) < l[i].parents.length ∧ w.cell? ⟨bp, op + y, none⟩ = some (.int .i64 (q : Int))) ∨ (l[i].kind ≠ 4 ∧ l[i].parents[0] = (q : Int))) := Lib.hid (by
          by_cases h4 : l[i].kind = 4
          · left
            have hcb : 0 ≤ x ∧ x ≤ (l[i].parents.length : Int) - 1 := by
              rcases hck.2.1 with ⟨h, _⟩ | ⟨h, _⟩ | ⟨_, _, _, hd⟩ | ⟨h, _⟩
              · omega
              · omega
              · obtain ⟨_, d1, d2, _⟩ := hd _ hkk; rw [← hx, e]; exact ⟨d1, d2⟩
              · omega
            obtain ⟨y, hy⟩ : ∃ y : Nat, x = y := ⟨_, (Int.toNat_of_nonneg hcb.1).symm⟩
            have hyl : y < l[i].parents.length := by omega
            obtain ⟨bp', op', e', ⟨q5, _⟩⟩ := sp.one y hyl
            cases e'
            refine ⟨h4, y, hy, by omega, ?_⟩
            rw [q5, ← hq, parC, if_neg h1, if_pos h4, hx, hy, Int.toNat_natCast, List.getD_eq_getElem?_getD, List.getElem?_eq_getElem hyl]; rfl
          · right
            refine ⟨h4, ?_⟩
            rw [← hq, parC, if_neg h1, if_neg h4, List.getD_eq_getElem?_getD, List.getElem?_eq_getElem hl0]; rfl)
        subst eS
        rw [D'.out, HX.out]
        clear ih h hs hc hp nb ok pr fs MO y1 sp sc hkk e e1 h1 ho hck k0 k1 hx hj' c1f c2f D IH hm p0 p1 hq hqq HO
        obtain ⟨dq, hdq⟩ : ∃ dq, dec l p q = dq := ⟨_, rfl⟩
        rw [hdq] at IHq GD ⊢
        clear hdq D'
        rcases PA.out with ⟨h4, y, hy, y2', q4⟩ | ⟨h4, hp0⟩
        · have b4 : (l[i].kind == 4) = true := by simp [h4]
          have b2 : (l[i].kind == 2) = false := by simp [h4]
          have b3 : (l[i].kind == 3) = false := by simp [h4]
          have b5 : (l[i].kind == 5) = false := by simp [h4]
          subst hy
          have hx5 := has_of_cell q4
          have SP : Hid (∀ r, stepP l[i] (y : Int) r = r) := Lib.hid (fun r => step_4 (by omega) (by omega) (fun h => by omega))
          clear PA h4
          obtain ⟨BR, hBR⟩ : ∃ BR : Nat, Hid (w.heap.size = BR) := ⟨_, Lib.hid rfl⟩
          have brl := Lib.hid (show w.heap.size ≤ BR by rw [hBR.out]; exact Nat.le_refl _)
          go_enter Tryz.func73, Tryz.ntmps73
          go_wp2_with fail
          go_quiet (fail)
          obtain ⟨W4, hW4⟩ : ∃ W4 : World, Hid (W4 = ((w.alloc (.cells #[.int .i64 0, .int .i64 0] 93)).alloc (.cells #[.int .i64 l[i].kind, .slice (some ⟨bp, op, none⟩) l[i].parents.length cp, .slice (some ⟨bc, oc, none⟩) l[i].choices.length cc, .int .i64 l[i].low, .int .i64 l[i].high] 79)).drewN nq) := ⟨_, Lib.hid rfl⟩
          rw [← hW4.out, hBR.out]
          have G4 : Hid (Gr w W4) := Lib.hid (by rw [hW4.out]; exact (((Gr.refl _).alloc _).alloc _).drewN _)
          have R4 : Hid (Row W4 BR 93 [.int .i64 0, .int .i64 0]) := Lib.hid (by rw [hW4.out, ← hBR.out]; exact ((Row.new w _ _).alloc _).drewN _)
          have C4 : Hid (Row W4 (BR + 1) 79 [.int .i64 l[i].kind, .slice (some ⟨bp, op, none⟩) l[i].parents.length cp, .slice (some ⟨bc, oc, none⟩) l[i].choices.length cc, .int .i64 l[i].low, .int .i64 l[i].high]) := Lib.hid (by rw [hW4.out]; exact (row_new' _ _ _ _ (by rw [← hBR.out]; simp)).drewN _)
          have m0 := C4.out.cell 0 (by simp)
          have m1 := C4.out.cell 1 (by simp)
          have mh := C4.out.has
          simp only [List.getElem_cons_zero, List.getElem_cons_succ] at m0 m1
          have t3 := cell_gr G4.out q3
          have th := has_of_cell t3
          have t4 := cell_gr G4.out q4
          clear hW4 q1 q2 q3 c0 c1 c2 c3 c4 hx1 hx2 hx3 hx4 q4 hx5
          go_wp2_with fail
          refine (IHq.out W4 (clks_gr H.out G4.out) (HS.out.giI G4.out)).mono ?_
          rintro e w5 ⟨rfl, hg5⟩
          have R5 := Lib.hid (R4.out.gr hg5)
          have C5 := Lib.hid (C4.out.gr hg5)
          have r5 := R5.out
          have c5 := C5.out
          have n0 := r5.cell 0 (by simp)
          have n1 := r5.cell 1 (by simp)
          have f0 := r5.free 0
          have f1 := r5.free 1
          have nh := r5.has
          have k0 := c5.cell 0 (by simp)
          have kh := c5.has
          simp only [List.getElem_cons_zero, List.getElem_cons_succ] at n0 n1 k0
          have G5 := Lib.hid (G4.out.trans hg5)
          clear hg5 r5 c5 m0 m1 mh t3 th t4
          cases dq with
          | opn f =>
            simp only [decV, Dec.thn]
            go_wp2_with fail
            refine bodyPost_ret (v := decV (.opn f)) ?_ rfl ⟨by first | rfl | (simp only [Dec.thn]; rw [SP.out]) | (simp only [Dec.thn]; rw [SP.out]; rfl), ?_⟩
            · simp (maxDischargeDepth := 9) [results, Tryz.results73, decV, numR, denR, go_sem, nh, n0, n1]
            · repeat (first | with_reducible exact G5.out | with_reducible refine Gr.setc brl.out ?_ | with_reducible refine Gr.xt _ _ ?_ | with_reducible refine Gr.alloc _ ?_ | with_reducible refine Gr.drewN _ ?_)
          | isr r =>
            have GR := GD.out r rfl
            clear GD
            cases r with
            | none =>
              simp only [decV, numR, denR, Dec.thn]
              go_wp2_with fail
              refine bodyPost_ret (v := decV (.isr none)) ?_ rfl ⟨by first | rfl | (simp only [Dec.thn]; rw [show stepP l[i] _ none = none from rfl]) | (simp only [Dec.thn]; rw [show stepP l[i] _ none = none from rfl]; rfl), ?_⟩
              · simp (maxDischargeDepth := 9) [results, Tryz.results73, decV, numR, denR, go_sem, nh, n0, n1]
              · repeat (first | with_reducible exact G5.out | with_reducible refine Gr.setc brl.out ?_ | with_reducible refine Gr.xt _ _ ?_ | with_reducible refine Gr.alloc _ ?_ | with_reducible refine Gr.drewN _ ?_)
            | some nd =>
              obtain ⟨n, d⟩ := nd
              obtain ⟨hv, hn1⟩ := GR n d rfl
              obtain ⟨v1, v2, v3, v4, v5⟩ := valid_parts hv
              have nb : (n == 0) = false := beq_eq_false_iff_ne.2 (by omega)
              simp only [decV, numR, denR, Dec.thn]
              clear hv v5 GR
              go_upto_if 62 with (fail)
              obtain ⟨W6, hW6⟩ : ∃ W6 : World, Hid (W6 = (w5.setCell ⟨BR, 0, none⟩ (.int .i64 n)).setCell ⟨BR, 1, none⟩ (.int .i64 d)) := ⟨_, Lib.hid rfl⟩
              rw [← hW6.out]
              have r6 : Row W6 BR 93 [.int .i64 n, .int .i64 d] := by rw [hW6.out]; exact (R5.out.set 0 _).set 1 _
              have c6 : Row W6 (BR + 1) 79 [.int .i64 l[i].kind, .slice (some ⟨bp, op, none⟩) l[i].parents.length cp, .slice (some ⟨bc, oc, none⟩) l[i].choices.length cc, .int .i64 l[i].low, .int .i64 l[i].high] := by rw [hW6.out]; exact (C5.out.oth (by omega)).oth (by omega)
              have g6 : Gr w W6 := by rw [hW6.out]; exact (G5.out.setc brl.out).setc brl.out
              clear n0 n1 f0 f1 nh k0 kh G5 R5 C5 hW6
              have G5 := Lib.hid g6
              have n0 := r6.cell 0 (by simp)
              have n1 := r6.cell 1 (by simp)
              have f0 := r6.free 0
              have f1 := r6.free 1
              have nh := r6.has
              have k0 := c6.cell 0 (by simp)
              have kh := c6.has
              simp only [List.getElem_cons_zero, List.getElem_cons_succ] at n0 n1 k0
              clear r6 c6 g6
              go_wp2_with fail
              refine bodyPost_ret (v := decV (.isr (some (n, d)))) ?_ rfl ⟨by first | rfl | (simp only [Dec.thn]; rw [SP.out]) | (simp only [Dec.thn]; rw [SP.out]; rfl), ?_⟩
              · simp (maxDischargeDepth := 9) [results, Tryz.results73, decV, numR, denR, go_sem, nh, n0, n1]
              · repeat (first | with_reducible exact G5.out | with_reducible refine Gr.setc brl.out ?_ | with_reducible refine Gr.xt _ _ ?_ | with_reducible refine Gr.alloc _ ?_ | with_reducible refine Gr.drewN _ ?_)
        · have b4 : (l[i].kind == 4) = false := by simp [h4]
          rw [hp0] at q3
          have SP := Lib.hid (show True from trivial)
          obtain ⟨kd, hkd⟩ : ∃ kd, l[i].kind = kd := ⟨_, rfl⟩
          have KD := Lib.hid hkd
          have SQ : Hid ((kd = 2 → ∀ n d, stepP l[i] x (some (n, d)) = some (oN n d x, oD n d x)) ∧ (kd = 3 → ∀ n d, stepP l[i] x (some (n, d)) = some (tN n d x, tD n d x)) ∧ (kd = 5 ∧ x = 0 → ∀ n d, stepP l[i] x (some (n, d)) = none) ∧ (kd ≠ 2 → kd ≠ 3 → (kd = 5 → x ≠ 0) → ∀ n d, stepP l[i] x (some (n, d)) = some (n, d))) := Lib.hid ⟨fun h n d => by simp [stepP, scaleR, hkd, h], fun h n d => by simp [stepP, scaleR, hkd, h], fun h n d => step_5 (by omega) h.2, fun h h' h'' n d => step_4 (by omega) (by omega) (fun q => h'' (by omega))⟩
          clear PA h4 hp0 hkd
          obtain ⟨BR, hBR⟩ : ∃ BR : Nat, Hid (w.heap.size = BR) := ⟨_, Lib.hid rfl⟩
          have brl := Lib.hid (show w.heap.size ≤ BR by rw [hBR.out]; exact Nat.le_refl _)
          go_enter Tryz.func73, Tryz.ntmps73
          go_wp2_with fail
          go_quiet (fail)
          obtain ⟨W4, hW4⟩ : ∃ W4 : World, Hid (W4 = ((w.alloc (.cells #[.int .i64 0, .int .i64 0] 93)).alloc (.cells #[.int .i64 l[i].kind, .slice (some ⟨bp, op, none⟩) l[i].parents.length cp, .slice (some ⟨bc, oc, none⟩) l[i].choices.length cc, .int .i64 l[i].low, .int .i64 l[i].high] 79)).drewN nq) := ⟨_, Lib.hid rfl⟩
          rw [← hW4.out, hBR.out]
          have G4 : Hid (Gr w W4) := Lib.hid (by rw [hW4.out]; exact (((Gr.refl _).alloc _).alloc _).drewN _)
          have R4 : Hid (Row W4 BR 93 [.int .i64 0, .int .i64 0]) := Lib.hid (by rw [hW4.out, ← hBR.out]; exact ((Row.new w _ _).alloc _).drewN _)
          have C4 : Hid (Row W4 (BR + 1) 79 [.int .i64 l[i].kind, .slice (some ⟨bp, op, none⟩) l[i].parents.length cp, .slice (some ⟨bc, oc, none⟩) l[i].choices.length cc, .int .i64 l[i].low, .int .i64 l[i].high]) := Lib.hid (by rw [hW4.out]; exact (row_new' _ _ _ _ (by rw [← hBR.out]; simp)).drewN _)
          have m0 := C4.out.cell 0 (by simp)
          have m1 := C4.out.cell 1 (by simp)
          have mh := C4.out.has
          simp only [List.getElem_cons_zero, List.getElem_cons_succ] at m0 m1
          have t3 := cell_gr G4.out q3
          have th := has_of_cell t3
          clear hW4 q1 q2 q3 c0 c1 c2 c3 c4 hx1 hx2 hx3 hx4
          go_wp2_with fail
          refine (IHq.out W4 (clks_gr H.out G4.out) (HS.out.giI G4.out)).mono ?_
          rintro e w5 ⟨rfl, hg5⟩
          have R5 := Lib.hid (R4.out.gr hg5)
          have C5 := Lib.hid (C4.out.gr hg5)
          have r5 := R5.out
          have c5 := C5.out
          have n0 := r5.cell 0 (by simp)
          have n1 := r5.cell 1 (by simp)
          have f0 := r5.free 0
          have f1 := r5.free 1
          have nh := r5.has
          have k0 := c5.cell 0 (by simp)
          have kh := c5.has
          simp only [List.getElem_cons_zero, List.getElem_cons_succ] at n0 n1 k0
          have G5 := Lib.hid (G4.out.trans hg5)
          clear hg5 r5 c5 m0 m1 mh t3 th
          cases dq with
          | opn f =>
            simp only [decV, Dec.thn]
            go_wp2_with fail
            refine bodyPost_ret (v := decV (.opn f)) ?_ rfl ⟨by first | rfl | (simp only [Dec.thn]; rw [SP.out]) | (simp only [Dec.thn]; rw [SP.out]; rfl), ?_⟩
            · simp (maxDischargeDepth := 9) [results, Tryz.results73, decV, numR, denR, go_sem, nh, n0, n1]
            · repeat (first | with_reducible exact G5.out | with_reducible refine Gr.setc brl.out ?_ | with_reducible refine Gr.xt _ _ ?_ | with_reducible refine Gr.alloc _ ?_ | with_reducible refine Gr.drewN _ ?_)
          | isr r =>
            have GR := GD.out r rfl
            clear GD
            cases r with
            | none =>
              simp only [decV, numR, denR, Dec.thn]
              go_wp2_with fail
              refine bodyPost_ret (v := decV (.isr none)) ?_ rfl ⟨by first | rfl | (simp only [Dec.thn]; rw [show stepP l[i] _ none = none from rfl]) | (simp only [Dec.thn]; rw [show stepP l[i] _ none = none from rfl]; rfl), ?_⟩
              · simp (maxDischargeDepth := 9) [results, Tryz.results73, decV, numR, denR, go_sem, nh, n0, n1]
              · repeat (first | with_reducible exact G5.out | with_reducible refine Gr.setc brl.out ?_ | with_reducible refine Gr.xt _ _ ?_ | with_reducible refine Gr.alloc _ ?_ | with_reducible refine Gr.drewN _ ?_)
            | some nd =>
              obtain ⟨n, d⟩ := nd
              obtain ⟨hv, hn1⟩ := GR n d rfl
              obtain ⟨v1, v2, v3, v4, v5⟩ := valid_parts hv
              have nb : (n == 0) = false := beq_eq_false_iff_ne.2 (by omega)
              simp only [decV, numR, denR, Dec.thn]
              clear hv v5 GR
              go_upto_if 62 with (fail)
              obtain ⟨W6, hW6⟩ : ∃ W6 : World, Hid (W6 = (w5.setCell ⟨BR, 0, none⟩ (.int .i64 n)).setCell ⟨BR, 1, none⟩ (.int .i64 d)) := ⟨_, Lib.hid rfl⟩
              rw [← hW6.out]
              have r6 : Row W6 BR 93 [.int .i64 n, .int .i64 d] := by rw [hW6.out]; exact (R5.out.set 0 _).set 1 _
              have c6 : Row W6 (BR + 1) 79 [.int .i64 l[i].kind, .slice (some ⟨bp, op, none⟩) l[i].parents.length cp, .slice (some ⟨bc, oc, none⟩) l[i].choices.length cc, .int .i64 l[i].low, .int .i64 l[i].high] := by rw [hW6.out]; exact (C5.out.oth (by omega)).oth (by omega)
              have g6 : Gr w W6 := by rw [hW6.out]; exact (G5.out.setc brl.out).setc brl.out
              clear n0 n1 f0 f1 nh k0 kh G5 R5 C5 hW6
              have G5 := Lib.hid g6
              have n0 := r6.cell 0 (by simp)
              have n1 := r6.cell 1 (by simp)
              have f0 := r6.free 0
              have f1 := r6.free 1
              have nh := r6.has
              have k0 := c6.cell 0 (by simp)
              have kh := c6.has
              simp only [List.getElem_cons_zero, List.getElem_cons_succ] at n0 n1 k0
              clear r6 c6 g6
              by_cases h5 : l[i].kind = 5
              · have b5 : (l[i].kind == 5) = true := by simp [h5]
                have b2 : (l[i].kind == 2) = false := by simp [h5]
                have b3 : (l[i].kind == 3) = false := by simp [h5]
                by_cases hx0 : x = 0
                · have bx : (x == 0) = true := by simp [hx0]
                  have SR := Lib.hid (SQ.out.2.2.1 ⟨by rw [← KD.out]; exact h5, hx0⟩ n d)
                  clear h5 hx0
                  go_wp2_with fail
                  refine bodyPost_ret (v := decV (.isr none)) ?_ rfl ⟨by first | rfl | (simp only [Dec.thn]; rw [SR.out]) | (simp only [Dec.thn]; rw [SR.out]; rfl), ?_⟩
                  · simp (maxDischargeDepth := 9) [results, Tryz.results73, decV, numR, denR, go_sem, nh, n0, n1]
                  · repeat (first | with_reducible exact G5.out | with_reducible refine Gr.setc brl.out ?_ | with_reducible refine Gr.xt _ _ ?_ | with_reducible refine Gr.alloc _ ?_ | with_reducible refine Gr.drewN _ ?_)
                · have bx : (x == 0) = false := by simp [hx0]
                  have SR := Lib.hid (SQ.out.2.2.2 (by rw [← KD.out, h5]; omega) (by rw [← KD.out, h5]; omega) (fun _ => hx0) n d)
                  clear h5 hx0
                  go_wp2_with fail
                  refine bodyPost_ret (v := decV (.isr (some (n, d)))) ?_ rfl ⟨by first | rfl | (simp only [Dec.thn]; rw [SR.out]) | (simp only [Dec.thn]; rw [SR.out]; rfl), ?_⟩
                  · simp (maxDischargeDepth := 9) [results, Tryz.results73, decV, numR, denR, go_sem, nh, n0, n1]
                  · repeat (first | with_reducible exact G5.out | with_reducible refine Gr.setc brl.out ?_ | with_reducible refine Gr.xt _ _ ?_ | with_reducible refine Gr.alloc _ ?_ | with_reducible refine Gr.drewN _ ?_)
              · have b5 : (l[i].kind == 5) = false := by simp [h5]
                by_cases h2 : l[i].kind = 2
                · have b2 : (l[i].kind == 2) = true := by simp [h2]
                  have SR := Lib.hid (SQ.out.1 (by rw [← KD.out]; exact h2) n d)
                  clear h5 h2
                  go_wp2_with fail
                  refine (over_any n d x _ (by omega) (by omega) (by omega) (by omega)).mono ?_
                  rintro e w' ⟨rfl, O1, D1, rfl⟩
                  go_wp2_with fail
                  refine bodyPost_ret (v := decV (.isr (some (oN n d x, oD n d x)))) ?_ rfl ⟨by first | rfl | (simp only [Dec.thn]; rw [SR.out]) | (simp only [Dec.thn]; rw [SR.out]; rfl), ?_⟩
                  · simp (maxDischargeDepth := 9) [results, Tryz.results73, decV, numR, denR, go_sem, nh, n0, n1]
                  · repeat (first | with_reducible exact G5.out | with_reducible refine Gr.setc brl.out ?_ | with_reducible refine Gr.xt _ _ ?_ | with_reducible refine Gr.alloc _ ?_ | with_reducible refine Gr.drewN _ ?_)
                · have b2 : (l[i].kind == 2) = false := by simp [h2]
                  by_cases h3 : l[i].kind = 3
                  · have b3 : (l[i].kind == 3) = true := by simp [h3]
                    have SR := Lib.hid (SQ.out.2.1 (by rw [← KD.out]; exact h3) n d)
                    clear h5 h2 h3
                    go_wp2_with fail
                    refine (times_any n d x _ (by omega) (by omega) (by omega) (by omega)).mono ?_
                    rintro e w' ⟨rfl, O1, D1, rfl⟩
                    go_wp2_with fail
                    refine bodyPost_ret (v := decV (.isr (some (tN n d x, tD n d x)))) ?_ rfl ⟨by first | rfl | (simp only [Dec.thn]; rw [SR.out]) | (simp only [Dec.thn]; rw [SR.out]; rfl), ?_⟩
                    · simp (maxDischargeDepth := 9) [results, Tryz.results73, decV, numR, denR, go_sem, nh, n0, n1]
                    · repeat (first | with_reducible exact G5.out | with_reducible refine Gr.setc brl.out ?_ | with_reducible refine Gr.xt _ _ ?_ | with_reducible refine Gr.alloc _ ?_ | with_reducible refine Gr.drewN _ ?_)
                  · have b3 : (l[i].kind == 3) = false := by simp [h3]
                    have SR := Lib.hid (SQ.out.2.2.2 (by rw [← KD.out]; exact h2) (by rw [← KD.out]; exact h3) (fun q => absurd (by rw [KD.out]; exact q) h5) n d)
                    clear h5 h2 h3
                    go_wp2_with fail
                    refine bodyPost_ret (v := decV (.isr (some (n, d)))) ?_ rfl ⟨by first | rfl | (simp only [Dec.thn]; rw [SR.out]) | (simp only [Dec.thn]; rw [SR.out]; rfl), ?_⟩
                    · simp (maxDischargeDepth := 9) [results, Tryz.results73, decV, numR, denR, go_sem, nh, n0, n1]
                    · repeat (first | with_reducible exact G5.out | with_reducible refine Gr.setc brl.out ?_ | with_reducible refine Gr.xt _ _ ?_ | with_reducible refine Gr.alloc _ ?_ | with_reducible refine Gr.drewN _ ?_)
end Go.Proofs.YtenehghpmnajpaaGreatDoor
