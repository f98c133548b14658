/- Every number is that of a setting; contracts of Count$1, Count. Contracts of Solve$1, Solve. (several texts in one, by wip/tools/merge.py) -/
import Derived.Test.YtenehghpmnajpaaDoorKv
import Derived.Test.YtenehghpmnajpaaDoorKt
/-! Every number is that of a setting; contracts of Count$1, Count. -/
set_option linter.unusedVariables false
set_option linter.unusedSimpArgs false
namespace Go.Proofs.YtenehghpmnajpaaDoor
open Go.RowKit
open Classical

theorem not_last {l : List Clk} {s : List Int} (hs : SetOk l s) : ∀ d j, j + d = l.length → (AllLast l s j ∨ ∃ i, j ≤ i ∧ i < l.length ∧ sOf s i + 1 < kOf l i ∧ AllLast l s (i + 1)) := by
  intro d
  induction d with
  | zero => intro j hj; exact .inl fun i h1 h2 => by omega
  | succ d ih =>
    intro j hj
    rcases ih (j + 1) (by omega) with h | ⟨i, h1, h2, h3, h4⟩
    · have hb := hs.at (i := j) (by omega)
      by_cases e : sOf s j + 1 < kOf l j
      · exact .inr ⟨j, Nat.le_refl _, by omega, e, h⟩
      · refine .inl fun i h1 h2 => ?_
        by_cases e2 : i = j
        · subst e2; omega
        · exact h i (by omega) h2
    · exact .inr ⟨i, by omega, h2, h3, h4⟩
theorem num_surj {l : List Clk} (h1 : ∀ c ∈ l, 1 ≤ c.choices.length) : ∀ n, n < prodC l → ∃ s, SetOk l s ∧ num l s = (n : Int) := by
  intro n
  induction n with
  | zero =>
    intro _
    have hz : ∀ i, sOf (List.replicate l.length 0) i = 0 := fun i => by
      unfold sOf
      rw [List.getD_eq_getElem?_getD, List.getElem?_replicate]; split <;> rfl
    refine ⟨List.replicate l.length 0, setOk_of (by rw [List.length_replicate]) (fun i hi => ?_), ?_⟩
    · rw [hz, kOf_at hi]
      have := h1 _ (List.getElem_mem hi); omega
    · have : ∀ j, numU (kOf l) (sOf (List.replicate l.length 0)) j = 0 := by
        intro j
        induction j with
        | zero => rfl
        | succ j ih => simp only [numU]; rw [ih, hz]; simp
      exact this _
  | succ n ih =>
    intro hn
    obtain ⟨s, hs, he⟩ := ih (by omega)
    rcases not_last hs l.length 0 (by omega) with h | ⟨j, _, hj, h3, h4⟩
    · have := num_last h; omega
    · exact ⟨nxS s j, nxS_ok hs hj h3 (fun i hi => by
        rw [kOf_at hi]
        have := h1 _ (List.getElem_mem hi); omega), by rw [num_nxS hs hj h4, he]; simp⟩
theorem setN_ok {l : List Clk} (h1 : ∀ c ∈ l, 1 ≤ c.choices.length) {n : Nat} (hn : n < prodC l) : SetOk l (setN l n) ∧ num l (setN l n) = (n : Int) := by
  have hx := num_surj h1 n hn
  unfold setN
  rw [dif_pos hx]
  exact Classical.choose_spec hx
/-- How many of the first settings meet. -/
noncomputable def cntK (l : List Clk) (p : List Int → Bool) (k : Nat) : Nat := (List.range k).countP fun i => p (setN l i)
noncomputable def cntS (l : List Clk) (ms : List Lmt) : Nat := cntK l (meetS l ms) (prodC l)
noncomputable def stepC (l : List Clk) (ms : List Lmt) (n : Nat) (s : List Int) : Nat := if meetS l ms s = true then n + 1 else n
theorem cntK_succ (l : List Clk) (p : List Int → Bool) (k : Nat) : cntK l p (k + 1) = cntK l p k + (if p (setN l k) = true then 1 else 0) := by
  unfold cntK
  rw [List.range_succ, List.countP_append]
  simp [List.countP_cons]
theorem cntK_le (l : List Clk) (p : List Int → Bool) (k : Nat) : cntK l p k ≤ k := by
  have := List.countP_le_length (p := fun i => p (setN l i)) (l := List.range k)
  simpa [cntK] using this
theorem stN_cnt (l : List Clk) (ms : List Lmt) (k : Nat) : stN (stepC l ms) 0 l k = cntK l (meetS l ms) k := by
  induction k with
  | zero => rfl
  | succ k ih =>
    rw [stN_succ, cntK_succ, ih]
    unfold stepC
    split <;> simp
def LieC (BN : Nat) (w0 : World) : Lie Nat := fun n w L => Row w BN 3 [.int .i64 (IntKind.i64.wrap (n : Int))] ∧ BN ∉ L ∧ w0.heap.size ≤ BN
theorem lieC_ok (BN : Nat) (w0 : World) : LieOk (LieC BN w0) where
  keep := fun st w w' L row h hg hr => ⟨h.1.grown hg (fun e => h.2.1 (hr BN e.symm)), h.2⟩
  sub := fun st w L L' h hs => ⟨h.1, fun q => h.2.1 (hs _ q), h.2.2⟩
theorem wrap_succ (n : Nat) : IntKind.i64.wrap (IntKind.i64.wrap (n : Int) + 1) = IntKind.i64.wrap ((n + 1 : Nat) : Int) := by
  simp only [IntKind.wrap_i64]; omega
theorem bits_eq0 (b : BitVec 64) : ((b.toNat : Int) == 0) = decide (b = 0) := by
  by_cases h : b = 0
  · subst h; simp
  · have : b.toNat ≠ 0 := fun q => h (BitVec.eq_of_toNat_eq (by simpa using q))
    rw [decide_eq_false h]; simp; omega
set_option maxRecDepth 100000 in
set_option maxHeartbeats 1000000 in
theorem seeC (l : List Clk) (ms : List Lmt) (BN : Nat) (w0 : World) (hb : (allB l ms).length ≤ 64) : SeeC (LieC BN w0) (stepC l ms) (fun _ => true) l ms BN w0 := by
  intro s st w L B c hs hg hI hL hB hBL
  obtain ⟨r, hn, h0⟩ := hI
  have RR := Lib.hid r
  have c0 := r.cell 0 (by simp)
  have hx := r.has
  have hf := r.free 0
  simp only [List.getElem_cons_zero] at c0
  have HM := meetS_bits l ms s hb
  have HG := Lib.hid hg
  have HL := Lib.hid hL
  have WS := Lib.hid (wrap_succ st)
  clear hs hg hL hB hBL r
  unfold vU64
  cases hm : meetS l ms s with
  | true =>
    have z : (((bitsS l ms s).toNat : Int) == 0) = true := by rw [bits_eq0, ← HM, hm]
    have ST : Hid (stepC l ms st s = st + 1) := Lib.hid (by unfold stepC; rw [if_pos hm])
    obtain ⟨X, hX⟩ : ∃ X : Int, ((bitsS l ms s).toNat : Int) = X := ⟨_, rfl⟩
    rw [hX] at z ⊢
    rw [ST.out]
    obtain ⟨N, hN⟩ : ∃ N : Int, IntKind.i64.wrap (st : Int) = N := ⟨_, rfl⟩
    rw [hN] at c0 WS
    clear hm HM ST hX
    go_enter Tryd.func69, Tryd.ntmps69
    go_wp2_with fail
    go_ret
    refine ⟨rfl, ⟨?_, hn, h0⟩, HG.out.setc h0, fun b hbL => (grownBy_set w BN 0 _).block b (HL.out b hbL) (fun e => hn (by injection e with e; rw [← e]; exact hbL)), (grownBy_set w BN 0 _).size⟩
    have e : wrap64 (N + 1) = IntKind.i64.wrap (N + 1) := by first | rfl | (rw [IntKind.wrap_i64]; unfold wrap64; omega)
    rw [← WS.out, e]
    exact RR.out.set 0 (.int .i64 (IntKind.i64.wrap (N + 1)))
  | false =>
    have z : (((bitsS l ms s).toNat : Int) == 0) = false := by rw [bits_eq0, ← HM, hm]
    have ST : Hid (stepC l ms st s = st) := Lib.hid (by unfold stepC; rw [hm]; simp)
    obtain ⟨X, hX⟩ : ∃ X : Int, ((bitsS l ms s).toNat : Int) = X := ⟨_, rfl⟩
    rw [hX] at z ⊢
    rw [ST.out]
    clear hm HM ST hX c0 hx hf
    go_enter Tryd.func69, Tryd.ntmps69
    go_wp2_with fail
    go_ret
    exact ⟨rfl, ⟨RR.out, hn, h0⟩, HG.out, fun b _ => rfl, Nat.le_refl _⟩
theorem begin17_any (l : List Clk) (ms : List Lmt) (al am : Option Addr) (cl cm : Nat) (w : World) (henv : Env w l ms al am) :
    Calls Tryd.prog 66 #[.slice al l.length cl, .slice am ms.length cm] w (Grows w (.int .i64 0)) := by
  have hl := small_len (cchk_zero henv.chk).1
  have ff : Fit l.length := by unfold Fit; omega
  have fm : Fit ms.length := by have := henv.lims.1; unfold Fit; omega
  have S0 : Hid (Calls Tryd.prog 65 #[.slice al l.length cl] w (Grows w (.int .i64 0))) := Lib.hid (by
    have := pCheck_any l al cl w henv.clks ff
    rwa [henv.chk] at this)
  have S1 : Hid (∀ W, Gr w W → Calls Tryd.prog 54 #[.slice al l.length cl, .slice am ms.length cm] W (Grows W (.bool true))) := Lib.hid fun W hW => by
    have := pLimits_any l ms al am cl cm W (clks_gr henv.clks hW) ff (lmts_gr henv.lmts hW) fm
    rwa [decide_eq_true (show LmtsOk l ms from ⟨henv.chk, henv.lims.1, henv.lims.2⟩)] at this
  clear henv ff fm
  go_enter Tryd.func66, Tryd.ntmps66
  go_wp2_with fail
  refine S0.out.mono ?_
  rintro e w1 ⟨rfl, hg1⟩
  have G1 := Lib.hid hg1
  clear hg1
  go_wp2_with fail
  refine (S1.out _ G1.out).mono ?_
  rintro e w2 ⟨rfl, hg2⟩
  have G2 := Lib.hid (G1.out.trans hg2)
  clear hg2
  go_wp2_with fail
  go_ret
  exact ⟨rfl, G2.out⟩
set_option maxRecDepth 100000 in
set_option maxHeartbeats 1000000 in
theorem count_any (l : List Clk) (ms : List Lmt) (al am : Option Addr) (cl cm : Nat) (w : World) (henv : Env w l ms al am) (h1 : 1 ≤ l.length) :
    Calls Tryd.prog 31 #[.slice al l.length cl, .slice am ms.length cm] w (Grows w (.tuple #[.int .i64 (cntS l ms : Int), .int .i64 0])) := by
  obtain ⟨_, _, prC, _⟩ := cchk_zero henv.chk
  have hl := small_len (cchk_zero henv.chk).1
  have hb : (allB l ms).length ≤ 64 := by have := allB_len l ms; have := henv.lims.1; omega
  have BG := Lib.hid (begin17_any l ms al am cl cm w henv)
  have HE := Lib.hid henv
  clear henv
  go_enter Tryd.func31, Tryd.ntmps31
  go_wp2_with fail
  refine BG.out.mono ?_
  rintro e w1 ⟨rfl, hg1⟩
  have G1 := Lib.hid hg1
  clear hg1 BG
  obtain ⟨BN, hBN⟩ : ∃ BN : Nat, Hid (w1.heap.size = BN) := ⟨_, Lib.hid rfl⟩
  obtain ⟨W2, hW2⟩ : ∃ W2 : World, Hid (W2 = (w1.alloc (.cells #[.int .i64 0] 3))) := ⟨_, Lib.hid rfl⟩
  have R2 : Hid (Row W2 BN 3 [.int .i64 0]) := Lib.hid (by rw [hW2.out, ← hBN.out]; exact Row.new w1 #[.int .i64 0] _)
  have G2 : Hid (Gr w W2) := Lib.hid (by rw [hW2.out]; exact G1.out.alloc _)
  have z2 : Hid (W2.heap.size = BN + 1) := Lib.hid (by rw [hW2.out, ← hBN.out]; simp)
  have VI' := visitC_any (LieC BN w) (stepC l ms) (fun _ => true) l ms al am cl cm BN [] w W2 0 HE.out G2.out h1 (fun b hb => by cases hb) (lieC_ok BN w)
    (fun w' L hg hL => ⟨(R2.out.gr hg), (fun q => by
      rcases hL BN q with h | h
      · cases h
      · have := z2.out; omega), by have := hBN.out; have := G1.out.size; omega⟩) (seeC l ms BN w hb)
  have CV := Lib.hid VI'
  rw [hW2.out] at CV
  have hx := hBN.out
  clear VI' R2
  go_wp2_with fail
  refine CV.out.mono ?_
  rintro e w3 ⟨rfl, k, hk1, hk2, hI, hend, _, hg3, _, _⟩
  have hk : k = prodC l := by
    rcases hend with h | h
    · exact h
    · cases h
  subst hk
  obtain ⟨r3, _, _⟩ := hI
  rw [stN_cnt] at r3
  have hcl := cntK_le l (meetS l ms) (prodC l)
  have hw : IntKind.i64.wrap ((cntK l (meetS l ms) (prodC l) : Nat) : Int) = ((cntK l (meetS l ms) (prodC l) : Nat) : Int) := by rw [IntKind.wrap_i64]; omega
  rw [hw] at r3
  have c0 := r3.cell 0 (by simp)
  have hx3 := r3.has
  simp only [List.getElem_cons_zero] at c0
  have G3 := Lib.hid hg3
  clear r3 hg3 hw hcl CV
  go_wp2_with fail
  go_ret2
  exact ⟨rfl, G3.out⟩
end Go.Proofs.YtenehghpmnajpaaDoor

/-! Contracts of Solve$1, Solve. -/
set_option linter.unusedVariables false
set_option linter.unusedSimpArgs false
namespace Go.Proofs.YtenehghpmnajpaaDoor
open Go.RowKit
open Classical

noncomputable def stepS (l : List Clk) (ms : List Lmt) (o : Option (List Int)) (s : List Int) : Option (List Int) := if meetS l ms s = true then some s else o
/-- The outcome in two cells. -/
def LieS (BO BF n : Nat) (w0 : World) : Lie (Option (List Int)) := fun o w L => BO ∉ L ∧ BF ∉ L ∧ w0.heap.size ≤ BO ∧ w0.heap.size ≤ BF ∧ BO ≠ BF ∧ Row w BF 4 [.bool o.isSome] ∧
  match o with
  | none => Row w BO 22 [.slice none 0 0]
  | some s => ∃ B c, Row w BO 22 [.slice (some ⟨B, 0, none⟩) n c] ∧ RowS w B 3 (nums s) ∧ B ∉ L ∧ w0.heap.size ≤ B ∧ B ≠ BO ∧ B ≠ BF
theorem lieS_ok (BO BF n : Nat) (w0 : World) : LieOk (LieS BO BF n w0) where
  keep := fun st w w' L row h hg hr => by
    obtain ⟨a1, a2, a3, a4, a5, a6, a7⟩ := h
    refine ⟨a1, a2, a3, a4, a5, a6.grown hg (fun e => a2 (hr BF e.symm)), ?_⟩
    cases st with
    | none => exact a7.grown hg (fun e => a1 (hr BO e.symm))
    | some s =>
      obtain ⟨B, c, b1, b2, b3, b4, b5, b6⟩ := a7
      exact ⟨B, c, b1.grown hg (fun e => a1 (hr BO e.symm)), b2.grown hg (fun e => b3 (hr B e.symm)), b3, b4, b5, b6⟩
  sub := fun st w L L' h hs => by
    obtain ⟨a1, a2, a3, a4, a5, a6, a7⟩ := h
    refine ⟨fun q => a1 (hs _ q), fun q => a2 (hs _ q), a3, a4, a5, a6, ?_⟩
    cases st with
    | none => exact a7
    | some s =>
      obtain ⟨B, c, b1, b2, b3, b4, b5, b6⟩ := a7
      exact ⟨B, c, b1, b2, fun q => b3 (hs _ q), b4, b5, b6⟩
theorem LieS.cells {BO BF n : Nat} {w0 w : World} {o : Option (List Int)} {L : List Nat} (h : LieS BO BF n w0 o w L) : ∃ x, Row w BO 22 [x] := by
  obtain ⟨_, _, _, _, _, _, a7⟩ := h
  cases o with
  | none => exact ⟨_, a7⟩
  | some s => obtain ⟨B, c, b1, _⟩ := a7; exact ⟨_, b1⟩
set_option maxRecDepth 100000 in
set_option maxHeartbeats 1000000 in
theorem seeS (l : List Clk) (ms : List Lmt) (BO BF : Nat) (w0 : World) (hb : (allB l ms).length ≤ 64) (hc : cchk l = 0) (h1 : 1 ≤ l.length) : SeeS (LieS BO BF l.length w0) (stepS l ms) (fun o => !o.isSome) l ms BO BF w0 := by
  intro s st w L B c hs hg hI hL hB hBL
  have hl := small_len (cchk_zero hc).1
  have HM := meetS_bits l ms s hb
  have HG := Lib.hid hg
  have HL := Lib.hid hL
  have HII := Lib.hid hI
  unfold vU64
  cases hm : meetS l ms s with
  | true =>
    have z : (((bitsS l ms s).toNat : Int) == 0) = true := by rw [bits_eq0, ← HM, hm]
    have ST : Hid (stepS l ms st s = some s) := Lib.hid (by unfold stepS; rw [if_pos hm])
    obtain ⟨X, hX⟩ : ∃ X : Int, ((bitsS l ms s).toNat : Int) = X := ⟨_, rfl⟩
    rw [hX] at z ⊢
    rw [ST.out]
    have CL : Hid (Calls Tryd.prog 60 #[.slice (some ⟨B, 0, none⟩) l.length c] w fun e w' => ∃ B c, e = .returned (.slice (some ⟨B, 0, none⟩) l.length c) ∧ NewI w s B w') := Lib.hid (by
      have := clone_any s (some ⟨B, 0, none⟩) c w (hB.s.slI (setOk_wide hc hs)) (by rw [hs.1]; exact h1) (by rw [hs.1]; exact hl)
      rwa [hs.1] at this)
    obtain ⟨x0, RO⟩ := hI.cells
    have RF := hI.2.2.2.2.2.1
    have n1 := hI.1
    have n2 := hI.2.1
    have z1 := hI.2.2.1
    have z2 := hI.2.2.2.1
    have z3 : ¬ (BO = BF) := hI.2.2.2.2.1
    have z4 : ¬ (BF = BO) := fun e => z3 e.symm
    have RO' := Lib.hid RO
    have RF' := Lib.hid RF
    clear hm HM ST hX hI hs hg hL hB RO RF
    go_enter Tryd.func68, Tryd.ntmps68
    go_wp2_with fail
    refine CL.out.mono ?_
    rintro e w1 ⟨B1, c1, rfl, hr, hb1, hg1⟩
    have RO1 := Lib.hid (RO'.out.gr hg1)
    have RF1 := Lib.hid (RF'.out.gr hg1)
    have o0 := RO1.out.cell 0 (by simp)
    have of := RO1.out.free 0
    have oh := RO1.out.has
    have f0 := RF1.out.cell 0 (by simp)
    have ff := RF1.out.free 0
    have fh := RF1.out.has
    simp only [List.getElem_cons_zero] at o0 f0
    have NR := Lib.hid hr
    have NB := Lib.hid hb1
    have G1 := Lib.hid hg1
    clear hr hb1 hg1 CL
    go_wp2_with fail
    go_ret
    have hBO : BO < w.heap.size := RO'.out.has
    have hBF : BF < w.heap.size := RF'.out.has
    have g1 := grownBy_set w1 BO 0 (.slice (some ⟨B1, 0, none⟩) l.length c1)
    have g2 := grownBy_set (w1.setCell ⟨BO, 0, none⟩ (.slice (some ⟨B1, 0, none⟩) l.length c1)) BF 0 (.bool true)
    refine ⟨rfl, ⟨n1, n2, z1, z2, z3, (RF1.out.oth z3).set 0 _, B1, c1, (RO1.out.set 0 _).oth z4, ?_, ?_, ?_, ?_, ?_⟩, ?_, ?_, ?_⟩
    · exact (NR.out.oth (by have := NB.out; omega)).oth (by have := NB.out; omega)
    · exact fun q => by have := HL.out B1 q; have := NB.out; unfold Has at *; omega
    · have := HG.out.size; have := NB.out; omega
    · have := NB.out; omega
    · have := NB.out; omega
    · exact ((HG.out.trans G1.out).setc z1).setc z2
    · intro b hb
      have hbw : b < w.heap.size := HL.out b hb
      have hb1 : b < w1.heap.size := Nat.lt_of_lt_of_le hbw G1.out.size
      rw [g2.block b (Nat.lt_of_lt_of_le hb1 g1.size) (fun e => n2 (by injection e with e; rw [← e]; exact hb)), g1.block b hb1 (fun e => n1 (by injection e with e; rw [← e]; exact hb))]
      exact G1.out.below.block b hbw
    · exact Nat.le_trans G1.out.size (Nat.le_trans g1.size g2.size)
  | false =>
    have z : (((bitsS l ms s).toNat : Int) == 0) = false := by rw [bits_eq0, ← HM, hm]
    have ST : Hid (stepS l ms st s = st) := Lib.hid (by unfold stepS; rw [hm]; simp)
    obtain ⟨X, hX⟩ : ∃ X : Int, ((bitsS l ms s).toNat : Int) = X := ⟨_, rfl⟩
    rw [hX] at z ⊢
    rw [ST.out]
    have RF := hI.2.2.2.2.2.1
    have f0 := RF.cell 0 (by simp)
    have fh := RF.has
    simp only [List.getElem_cons_zero] at f0
    obtain ⟨o, ho⟩ : ∃ o, st.isSome = o := ⟨_, rfl⟩
    rw [ho] at f0
    have HO := Lib.hid ho
    clear hm HM ST hX hI RF ho hs hg hL hB
    go_enter Tryd.func68, Tryd.ntmps68
    go_wp2_with fail
    go_ret
    exact ⟨by rw [HO.out]; rfl, HII.out, HG.out, fun b _ => rfl, Nat.le_refl _⟩
/-- The least setting that meets limits, or none. -/
def GivesSolve (w : World) (l : List Clk) (ms : List Lmt) (e : Ending) (w' : World) : Prop :=
  Gr w w' ∧ ((∃ s B c, SetOk l s ∧ meetS l ms s = true ∧ (∀ s', SetOk l s' → num l s' < num l s → meetS l ms s' = false) ∧ e = .returned (.tuple #[.slice (some ⟨B, 0, none⟩) l.length c, .int .i64 0]) ∧ RowS w' B 3 (nums s) ∧ w.heap.size ≤ B) ∨
    ((∀ s, SetOk l s → meetS l ms s = false) ∧ e = .returned (.tuple #[.slice none 0 0, .int .i64 9])))
theorem stN_solve {l : List Clk} {ms : List Lmt} {k : Nat} (h : ∀ j, 1 ≤ j → j < k → (stN (stepS l ms) none l j).isSome = false) (hk : 1 ≤ k) :
    (∀ j, j + 1 < k → meetS l ms (setN l j) = false) ∧ stN (stepS l ms) none l k = if meetS l ms (setN l (k - 1)) = true then some (setN l (k - 1)) else none := by
  have n0 : ∀ j, j < k → stN (stepS l ms) none l j = none := fun j hj => by
    rcases Nat.eq_zero_or_pos j with e | e
    · subst e; rfl
    · have := h j e hj
      simpa using this
  constructor
  · intro j hj
    have h1 := n0 (j + 1) hj
    rw [stN_succ, n0 j (by omega)] at h1
    unfold stepS at h1
    cases hm : meetS l ms (setN l j) with
    | false => rfl
    | true => rw [hm] at h1; simp at h1
  · obtain ⟨j, rfl⟩ : ∃ j, k = j + 1 := ⟨k - 1, by omega⟩
    rw [stN_succ, n0 j (by omega)]
    rfl
set_option maxRecDepth 100000 in
set_option maxHeartbeats 1000000 in
theorem solve_any (l : List Clk) (ms : List Lmt) (al am : Option Addr) (cl cm : Nat) (w : World) (henv : Env w l ms al am) (h1 : 1 ≤ l.length) :
    Calls Tryd.prog 30 #[.slice al l.length cl, .slice am ms.length cm] w (GivesSolve w l ms) := by
  obtain ⟨_, okC, prC, _⟩ := cchk_zero henv.chk
  have hl := small_len (cchk_zero henv.chk).1
  have hb : (allB l ms).length ≤ 64 := by have := allB_len l ms; have := henv.lims.1; omega
  have BG := Lib.hid (begin17_any l ms al am cl cm w henv)
  have HE := Lib.hid henv
  have HC1 := Lib.hid (allOk_cho okC)
  clear henv okC
  go_enter Tryd.func30, Tryd.ntmps30
  go_wp2_with fail
  refine BG.out.mono ?_
  rintro e w1 ⟨rfl, hg1⟩
  have G1 := Lib.hid hg1
  clear hg1 BG
  go_wp2_with fail
  obtain ⟨BO, hBO⟩ : ∃ BO : Nat, Hid (w1.heap.size = BO) := ⟨_, Lib.hid rfl⟩
  obtain ⟨W2, hW2⟩ : ∃ W2 : World, Hid (W2 = ((w1.alloc (.cells #[.slice none 0 0] 22)).alloc (.cells #[.bool false] 4))) := ⟨_, Lib.hid rfl⟩
  have RO : Hid (Row W2 BO 22 [.slice none 0 0]) := Lib.hid (by rw [hW2.out, ← hBO.out]; exact (Row.new w1 #[.slice none 0 0] _).gr ((Gr.refl _).alloc _))
  have RF : Hid (Row W2 (BO + 1) 4 [.bool false]) := Lib.hid (by
    rw [hW2.out, ← hBO.out]
    have := Row.new (w1.alloc (.cells #[.slice none 0 0] 22)) #[.bool false] 4
    have e : (w1.alloc (.cells #[.slice none 0 0] 22)).heap.size = w1.heap.size + 1 := by simp
    rw [e] at this
    exact this)
  have G2 : Hid (Gr w W2) := Lib.hid (by rw [hW2.out]; exact (G1.out.alloc _).alloc _)
  have z2 : Hid (W2.heap.size = BO + 2) := Lib.hid (by rw [hW2.out, ← hBO.out]; simp)
  have wb : Hid (w.heap.size ≤ BO) := Lib.hid (by have := hBO.out; have := G1.out.size; omega)
  have CV := Lib.hid (visitS_any (LieS BO (BO + 1) l.length w) (stepS l ms) (fun o => !o.isSome) l ms al am cl cm BO (BO + 1) [] w W2 none HE.out G2.out h1 (fun b hb => by cases hb) (lieS_ok BO (BO + 1) l.length w)
    (fun w' L hg hL => ⟨(fun q => by
      rcases hL BO q with h | h
      · cases h
      · have := z2.out; omega), (fun q => by
      rcases hL (BO + 1) q with h | h
      · cases h
      · have := z2.out; omega), wb.out, by have := wb.out; omega, by omega, RF.out.gr hg, RO.out.gr hg⟩) (seeS l ms BO (BO + 1) w hb HE.out.chk h1))
  rw [hBO.out]
  rw [hW2.out] at CV
  clear RO RF
  refine CV.out.mono ?_
  rintro e w3 ⟨rfl, k, hk1, hk2, hI, hend, hmore, hg3, _, _⟩
  obtain ⟨hno, hval⟩ := stN_solve (fun j h1 h2 => by have := hmore j h1 h2; simpa using this) hk1
  obtain ⟨sok, snum⟩ := setN_ok HC1.out (n := k - 1) (by omega)
  rw [hval] at hI hend
  obtain ⟨s, hs⟩ : ∃ s, setN l (k - 1) = s := ⟨_, rfl⟩
  rw [hs] at hI hend sok snum
  have G3 := Lib.hid hg3
  have SOK := Lib.hid sok
  have SNUM := Lib.hid snum
  have HNO := Lib.hid hno
  clear hmore hno hval hg3 hs sok snum CV
  obtain ⟨_, _, _, _, hne, rf, hcell⟩ := hI
  have f0 := rf.cell 0 (by simp)
  have fh := rf.has
  simp only [List.getElem_cons_zero] at f0
  cases hm : meetS l ms s with
  | true =>
    rw [hm] at hcell f0
    simp only [if_true, Option.isSome_some] at hcell f0
    obtain ⟨B, c, rb, rs, _, hbb, _, _⟩ := hcell
    have o0 := rb.cell 0 (by simp)
    have oh := rb.has
    simp only [List.getElem_cons_zero] at o0
    have RS := Lib.hid rs
    have HM := Lib.hid hm
    clear rb rs hm rf
    go_wp2_with fail
    go_ret2
    refine ⟨G3.out, .inl ⟨s, B, c, SOK.out, HM.out, fun s' h1 h2 => ?_, rfl, RS.out, hbb⟩⟩
    have hb' := num_bound h1
    have := HNO.out (num l s').toNat (by have := SNUM.out; omega)
    rwa [setN_eq h1 (by omega)] at this
  | false =>
    rw [hm] at hcell f0 hend
    simp only [if_neg (show ¬ (false = true) by decide), Option.isSome_none] at hcell f0 hend
    have HM := Lib.hid hm
    have HE2 : Hid (k = prodC l) := Lib.hid (by
      rcases hend with h | h
      · exact h
      · cases h)
    clear hcell hm rf hend
    go_wp2_with fail
    go_ret2
    refine ⟨G3.out, .inr ⟨fun s' h1 => ?_, rfl⟩⟩
    have hb' := num_bound h1
    by_cases e : (num l s').toNat = k - 1
    · have : s' = s := num_inj h1 SOK.out (by rw [SNUM.out]; omega)
      rw [this]; exact HM.out
    · have := HNO.out (num l s').toNat (by have := HE2.out; omega)
      rwa [setN_eq h1 (by omega)] at this
end Go.Proofs.YtenehghpmnajpaaDoor

/-! Plain: counts and least settings, also under other limits. No program in sight. -/
set_option linter.unusedVariables false
set_option linter.unusedSimpArgs false
namespace Go.Proofs.YtenehghpmnajpaaDoor
open Go.RowKit
open Classical

theorem cntK_zero (l : List Clk) (p : List Int → Bool) (k : Nat) : cntK l p k = 0 ↔ ∀ j, j < k → p (setN l j) = false := by
  unfold cntK
  rw [List.countP_eq_zero]
  constructor
  · intro h j hj
    have := h j (List.mem_range.2 hj)
    simpa using this
  · intro h j hj
    rw [h j (List.mem_range.1 hj)]; simp
theorem cntK_next {l : List Clk} {p : List Int → Bool} {t : List Int} {k : Nat} (ht : SetOk l t) (hk : num l t = (k : Int)) : cntK l p (k + 1) = cntK l p k + (if p t = true then 1 else 0) := by
  rw [cntK_succ, setN_eq ht hk]
theorem cntK_none {l : List Clk} {p : List Int → Bool} {k : Nat} (h : ∀ s, SetOk l s → p s = false) (h1 : ∀ c ∈ l, 1 ≤ c.choices.length) (hk : k ≤ prodC l) : cntK l p k = 0 :=
  (cntK_zero l p k).2 fun j hj => h _ (setN_ok h1 (by omega)).1
theorem cntK_some {l : List Clk} {p : List Int → Bool} {s : List Int} {k : Nat} (hs : SetOk l s) (hp : p s = true) (hk : num l s < (k : Int)) : cntK l p k ≠ 0 := fun h => by
  have hb := num_bound hs
  have := (cntK_zero l p k).1 h (num l s).toNat (by omega)
  rw [setN_eq hs (by omega), hp] at this
  cases this
/-- The least setting that meets limits. -/
def LeastS (l : List Clk) (ms : List Lmt) (s : List Int) : Prop := SetOk l s ∧ meetS l ms s = true ∧ ∀ s', SetOk l s' → num l s' < num l s → meetS l ms s' = false
theorem LeastS.unique {l : List Clk} {ms ms' : List Lmt} {s t : List Int} (hs : LeastS l ms s) (ht : LeastS l ms' t) (h : ∀ x, meetS l ms x = meetS l ms' x) : s = t := by
  obtain ⟨a1, a2, a3⟩ := hs
  obtain ⟨b1, b2, b3⟩ := ht
  refine num_inj a1 b1 ?_
  rcases Int.lt_trichotomy (num l s) (num l t) with q | q | q
  · have := b3 s a1 q
    rw [← h, a2] at this; cases this
  · exact q
  · have := a3 t b1 q
    rw [h, b2] at this; cases this
theorem LeastS.first {l : List Clk} {ms : List Lmt} {s t : List Int} {k : Nat} (hs : LeastS l ms s) (ht : SetOk l t) (hk : num l t = (k : Int)) (hz : cntK l (meetS l ms) k = 0) (hm : meetS l ms t = true) : s = t := by
  obtain ⟨a1, a2, a3⟩ := hs
  refine num_inj a1 ht ?_
  rcases Int.lt_trichotomy (num l s) (num l t) with q | q | q
  · exact absurd hz (cntK_some a1 a2 (by omega))
  · exact q
  · have := a3 t ht q
    rw [hm] at this; cases this
theorem meetR_mem (R : List Rt) (l : List Clk) (ms : List Lmt) : MeetR R l ms ↔ OwnR R l ∧ ∀ x ∈ ms, okIn (rtAt R x.clock.toNat) x.low x.high = true :=
  ⟨fun h => ⟨h.1, fun x hx => by
    obtain ⟨j, hj, rfl⟩ := List.mem_iff_getElem.1 hx
    exact h.2 j hj⟩, fun h => ⟨h.1, fun j hj => h.2 _ (List.getElem_mem hj)⟩⟩
theorem meetS_true {l : List Clk} {ms : List Lmt} {s : List Int} : meetS l ms s = true ↔ OwnR (rts l s) l ∧ ∀ x ∈ ms, okIn (rtAt (rts l s) x.clock.toNat) x.low x.high = true := by
  rw [meetS_eq, decide_eq_true_iff, meetR_mem]
/-- Fewer limits are met where more are. -/
theorem meetS_sub {l : List Clk} {ms ms' : List Lmt} (h : ∀ x ∈ ms', x ∈ ms) {s : List Int} (hm : meetS l ms s = true) : meetS l ms' s = true := by
  rw [meetS_true] at hm ⊢
  exact ⟨hm.1, fun x hx => hm.2 x (h x hx)⟩
theorem meetS_same {l : List Clk} {ms ms' : List Lmt} (h : ∀ x, x ∈ ms' ↔ x ∈ ms) (s : List Int) : meetS l ms s = meetS l ms' s := by
  rw [Bool.eq_iff_iff]
  exact ⟨meetS_sub fun x hx => (h x).1 hx, meetS_sub fun x hx => (h x).2 hx⟩
theorem okIn_wide {r : Rt} {lo hi hi' : Int} (h : hi' ≤ hi) (hr : okIn r lo hi' = true) : okIn r lo hi = true := by
  cases r with
  | none => cases hr
  | some nd =>
    obtain ⟨n, d⟩ := nd
    simp only [okIn] at hr ⊢
    have hv : validB n d = true := by unfold withinB at hr; simp only [Bool.and_eq_true] at hr; exact hr.1
    rw [within_eq n d lo hi' hv] at hr
    rw [within_eq n d lo hi hv]
    simp only [Bool.and_eq_true, decide_eq_true_iff] at hr ⊢
    obtain ⟨_, _, d1, _, _⟩ := valid_parts hv
    have := Int.mul_le_mul_of_nonneg_right h (show 0 ≤ d by omega)
    omega
theorem meetS_narrow {l : List Clk} {x : Lmt} {ms : List Lmt} {hi : Int} (h : hi ≤ x.high) {s : List Int} (hm : meetS l (⟨x.clock, x.low, hi⟩ :: ms) s = true) : meetS l (x :: ms) s = true := by
  rw [meetS_true] at hm ⊢
  refine ⟨hm.1, fun y hy => ?_⟩
  rcases List.mem_cons.1 hy with e | e
  · subst e
    exact okIn_wide h (hm.2 ⟨y.clock, y.low, hi⟩ (by simp))
  · exact hm.2 y (by simp [e])
theorem cntS_mono {l : List Clk} {ms ms' : List Lmt} (h : ∀ s, meetS l ms' s = true → meetS l ms s = true) : cntS l ms' ≤ cntS l ms := by
  unfold cntS cntK
  exact List.countP_mono_left fun j _ hj => h _ hj
theorem LsOk.mem {l : List Clk} {ms : List Lmt} (h : LsOk l ms) : ∀ x ∈ ms, LmtOk l x := fun x hx => by
  obtain ⟨j, hj, rfl⟩ := List.mem_iff_getElem.1 hx
  exact h.2 j hj
theorem LsOk.of_mem {l : List Clk} {ms : List Lmt} (h : ms.length ≤ 32) (k : ∀ x ∈ ms, LmtOk l x) : LsOk l ms := ⟨h, fun j hj => k _ (List.getElem_mem hj)⟩
end Go.Proofs.YtenehghpmnajpaaDoor
