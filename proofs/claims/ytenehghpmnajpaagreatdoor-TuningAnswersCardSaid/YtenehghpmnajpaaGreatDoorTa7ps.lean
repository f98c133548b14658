/- Lemmas and contracts for the proof of TuningAnswers (several texts in one, printed by wip/tools/pack.py): GaD GaE EqA EqB PcA. -/
import Derived.Test.YtenehghpmnajpaaGreatDoorTa7po
import Derived.Test.YtenehghpmnajpaaGreatDoorTa7pq
import Derived.Test.YtenehghpmnajpaaGreatDoorTa7pr
import Derived.Test.YtenehghpmnajpaaGreatDoorTa7pl
import Derived.Test.YtenehghpmnajpaaGreatDoorTa7pn
set_option linter.unusedVariables false
set_option linter.unusedSimpArgs false
namespace Go.Proofs.YtenehghpmnajpaaGreatDoor
open Go.RowKit
open Classical
/-- Clocks and limits that came in: nothing is asked of them but that they lie there. -/
structure GEnv (w : World) (l : List Clk) (ms : List Lmt) (al am : Option Addr) : Prop where
  clks : SlOf 5 RClk w al l
  fl : Fit l.length
  lmts : SlOf 3 RLmt w am ms
  fm : Fit ms.length
  off : OffV w
section
variable {w w' : World} {l : List Clk} {ms : List Lmt} {al am : Option Addr}
theorem GEnv.gr (h : GEnv w l ms al am) (hg : Gr w w') : GEnv w' l ms al am := ⟨clks_gr h.clks hg, h.fl, lmts_gr h.lmts hg, h.fm, h.off.gr hg⟩
theorem GEnv.env (h : GEnv w l ms al am) (hb : bgE l ms = 0) : Env w l ms al am := by
  obtain ⟨a, b, c⟩ := bgE_zero hb
  exact ⟨h.clks, h.lmts, h.off, a, b, c⟩
end
noncomputable def solL (l : List Clk) (ms : List Lmt) : List Int := if bgE l ms = 0 then (metL l ms (prodC l)).headD [] else []
noncomputable def solE (l : List Clk) (ms : List Lmt) : Int := if bgE l ms = 0 then (if cntS l ms = 0 then 9 else 0) else bgE l ms
noncomputable def cntG (l : List Clk) (ms : List Lmt) : Int := if bgE l ms = 0 then (cntS l ms : Int) else 0
noncomputable def rfE (l : List Clk) (ms : List Lmt) : Int := if bgE l ms = 0 then (if cntS l ms = 0 then 0 else 8) else bgE l ms
noncomputable def leL (l : List Clk) (ms : List Lmt) : List Int := if bgE l ms = 0 then (if cntS l ms = 0 then (leastGo l ms ms.length).2 else []) else []
/-- Numbers and an error. -/
def GivesNE (w : World) (xs : List Int) (en : Int) (e : Ending) (w' : World) : Prop := ∃ (a : Option Addr) (c : Nat), e = .returned (.tuple #[.slice a xs.length c, .int .i64 en]) ∧ SlOf 1 RI w' a xs ∧ Gr w w'
theorem cntS_zero {l : List Clk} {ms : List Lmt} (hc : cchk l = 0) : cntS l ms = 0 ↔ ∀ s, SetOk l s → meetS l ms s = false := by
  have h1 := allOk_cho (cchk_zero hc).2.1
  constructor
  · intro h s hs
    cases hm : meetS l ms s with
    | false => rfl
    | true => exact absurd h (cntK_some hs hm (num_bound hs).2)
  · intro h
    exact cntK_none h h1 (Nat.le_refl _)
theorem met_first {l : List Clk} {ms : List Lmt} {s : List Int} (h : LeastS l ms s) : ∀ k : Nat, num l s < (k : Int) → ∃ r, metL l ms k = s :: r := by
  obtain ⟨a1, a2, a3⟩ := h
  have hb := num_bound a1
  obtain ⟨j, hj⟩ : ∃ j : Nat, num l s = (j : Int) := ⟨(num l s).toNat, by omega⟩
  have low : ∀ i, i ≤ j → metL l ms i = [] := by
    intro i
    induction i with
    | zero => intro _; rfl
    | succ i ih =>
      intro hi
      have h1 : ∀ c ∈ l, 1 ≤ c.choices.length := by
        intro c hc
        obtain ⟨q, hq, rfl⟩ := List.mem_iff_getElem.1 hc
        have := a1.at hq
        rw [kOf_at hq] at this
        omega
      have hs := setN_ok h1 (n := i) (by omega)
      rw [metL_succ, ih (by omega), a3 _ hs.1 (by rw [hs.2]; omega)]
      simp
  intro k
  induction k with
  | zero => intro hk; omega
  | succ k ih =>
    intro hk
    by_cases e : k = j
    · subst e
      rw [metL_succ, low _ (Nat.le_refl _), setN_eq a1 hj, a2]
      exact ⟨[], by simp⟩
    · obtain ⟨r, hr⟩ := ih (by omega)
      rw [metL_succ, hr]
      exact ⟨_, rfl⟩
section
variable {l : List Clk} {ms : List Lmt}
theorem sol_first {s : List Int} (hb : bgE l ms = 0) (h : LeastS l ms s) : solL l ms = s ∧ solE l ms = 0 := by
  have hc := (bgE_zero hb).1
  obtain ⟨r, hr⟩ := met_first h (prodC l) (num_bound h.1).2
  constructor
  · unfold solL; rw [if_pos hb, hr]; rfl
  · unfold solE
    rw [if_pos hb, if_neg]
    intro q
    have := (cntS_zero hc).1 q s h.1
    rw [h.2.1] at this; cases this
theorem sol_none (hb : bgE l ms = 0) (h : ∀ s, SetOk l s → meetS l ms s = false) : solL l ms = [] ∧ solE l ms = 9 := by
  have hc := (bgE_zero hb).1
  have h0 : cntS l ms = 0 := (cntS_zero hc).2 h
  constructor
  · unfold solL
    rw [if_pos hb]
    have := metL_len l ms (prodC l)
    rw [show cntK l (meetS l ms) (prodC l) = 0 from h0] at this
    rw [List.eq_nil_of_length_eq_zero this]; rfl
  · unfold solE; rw [if_pos hb, if_pos h0]
theorem rf_some (hb : bgE l ms = 0) (h : ∃ s, SetOk l s ∧ meetS l ms s = true) : rfE l ms = 8 ∧ leL l ms = [] := by
  have hc := (bgE_zero hb).1
  have h0 : cntS l ms ≠ 0 := fun q => by
    obtain ⟨s, hs, hm⟩ := h
    have := (cntS_zero hc).1 q s hs
    rw [hm] at this; cases this
  exact ⟨by unfold rfE; rw [if_pos hb, if_neg h0], by unfold leL; rw [if_pos hb, if_neg h0]⟩
theorem rf_none (hb : bgE l ms = 0) (h : ∀ s, SetOk l s → meetS l ms s = false) : rfE l ms = 0 ∧ leL l ms = (leastGo l ms ms.length).2 := by
  have hc := (bgE_zero hb).1
  have h0 : cntS l ms = 0 := (cntS_zero hc).2 h
  exact ⟨by unfold rfE; rw [if_pos hb, if_pos h0], by unfold leL; rw [if_pos hb, if_pos h0]⟩
theorem all_bad (hb : bgE l ms ≠ 0) : solL l ms = [] ∧ solE l ms = bgE l ms ∧ cntG l ms = 0 ∧ rfE l ms = bgE l ms ∧ leL l ms = [] := by
  refine ⟨?_, ?_, ?_, ?_, ?_⟩
  · unfold solL; rw [if_neg hb]
  · unfold solE; rw [if_neg hb]
  · unfold cntG; rw [if_neg hb]
  · unfold rfE; rw [if_neg hb]
  · unfold leL; rw [if_neg hb]
end
theorem least_bnd (l : List Clk) (ms : List Lmt) : ∀ i : Nat, ∀ k ∈ (leastGo l ms i).2, 0 ≤ k ∧ k < (i : Int) := by
  intro i
  induction i with
  | zero => intro k hk; cases hk
  | succ i ih =>
    intro k hk
    simp only [leastGo] at hk
    split at hk
    · rcases List.mem_append.1 hk with hk | hk
      · have := ih k hk; omega
      · have : k = (i : Int) := by simpa using hk
        omega
    · have := ih k hk; omega
theorem bgE_ne (l : List Clk) (ms : List Lmt) : bgE l ms ≠ 9 := by
  unfold bgE cchk
  repeat' split
  all_goals decide
set_option maxRecDepth 100000 in
set_option maxHeartbeats 1000000 in
theorem solveG_any (l : List Clk) (ms : List Lmt) (al am : Option Addr) (cl cm : Nat) (w : World) (h : GEnv w l ms al am) :
    Calls Tryz.prog 16 #[.slice al l.length cl, .slice am ms.length cm] w (GivesNE w (solL l ms) (solE l ms)) := by
  by_cases hb : bgE l ms = 0
  · refine (solve_any l ms al am cl cm w (h.env hb)).mono ?_
    rintro e w' ⟨hg, ⟨s, B, c, hs, hm, hl, rfl, hr, _⟩ | ⟨hno, rfl⟩⟩
    · obtain ⟨e1, e2⟩ := sol_first hb ⟨hs, hm, hl⟩
      rw [e1, e2]
      exact ⟨_, c, by rw [hs.1], hr.slI (setOk_wide (bgE_zero hb).1 hs), hg⟩
    · obtain ⟨e1, e2⟩ := sol_none hb hno
      rw [e1, e2]
      exact ⟨none, 0, rfl, SlOf.nil _ _ _ _, hg⟩
  · obtain ⟨e1, e2, _⟩ := all_bad hb
    rw [e1, e2]
    have BG := Lib.hid (beginG_any l ms al am cl cm w h.clks h.lmts h.fl h.fm)
    obtain ⟨B, hB⟩ : ∃ B, bgE l ms = B := ⟨_, rfl⟩
    rw [hB] at BG hb ⊢
    have bb : (B != 0) = true := by simp [hb]
    clear h hB hb e1 e2
    go_enter Tryz.func16, Tryz.ntmps16
    go_wp2_with fail
    refine BG.out.mono ?_
    rintro e w1 ⟨rfl, hg1⟩
    go_wp2_with fail
    go_ret2
    exact ⟨none, 0, rfl, SlOf.nil _ _ _ _, hg1⟩
set_option maxRecDepth 100000 in
set_option maxHeartbeats 1000000 in
theorem countG_any (l : List Clk) (ms : List Lmt) (al am : Option Addr) (cl cm : Nat) (w : World) (h : GEnv w l ms al am) :
    Calls Tryz.prog 18 #[.slice al l.length cl, .slice am ms.length cm] w (Grows w (.tuple #[.int .i64 (cntG l ms), .int .i64 (bgE l ms)])) := by
  by_cases hb : bgE l ms = 0
  · have := count_any l ms al am cl cm w (h.env hb)
    rw [hb]
    unfold cntG
    rw [if_pos hb]; exact this
  · obtain ⟨_, _, e3, _⟩ := all_bad hb
    rw [e3]
    have BG := Lib.hid (beginG_any l ms al am cl cm w h.clks h.lmts h.fl h.fm)
    obtain ⟨B, hB⟩ : ∃ B, bgE l ms = B := ⟨_, rfl⟩
    rw [hB] at BG hb ⊢
    have bb : (B != 0) = true := by simp [hb]
    clear h hB hb e3
    go_enter Tryz.func18, Tryz.ntmps18
    go_wp2_with fail
    refine BG.out.mono ?_
    rintro e w1 ⟨rfl, hg1⟩
    go_wp2_with fail
    go_ret2
    exact ⟨rfl, hg1⟩
set_option maxRecDepth 100000 in
set_option maxHeartbeats 1000000 in
theorem leastG_any (l : List Clk) (ms : List Lmt) (al am : Option Addr) (cl cm : Nat) (w : World) (h : GEnv w l ms al am) :
    Calls Tryz.prog 20 #[.slice al l.length cl, .slice am ms.length cm] w (GivesNE w (leL l ms) (rfE l ms)) := by
  by_cases hb : bgE l ms = 0
  · refine (pLeast_any l ms al am cl cm w (h.env hb)).mono ?_
    rintro e w' ⟨hg, ⟨hex, rfl⟩ | ⟨hno, a, c, rfl, ho⟩⟩
    · obtain ⟨e1, e2⟩ := rf_some hb hex
      rw [e1, e2]
      exact ⟨none, 0, rfl, SlOf.nil _ _ _ _, hg⟩
    · obtain ⟨e1, e2⟩ := rf_none hb hno
      rw [e1, e2]
      refine ⟨a, c, rfl, ?_, hg⟩
      have hml := (bgE_zero hb).2.1
      have h1 := allOk_cho (cchk_zero (bgE_zero hb).1).2.1
      intro k hk
      obtain ⟨g, cap, e0, _, _, hc⟩ := owns_cell ho (by omega)
      cases e0
      refine ⟨g, 0, rfl, ?_, ?_⟩
      · rw [Nat.zero_add, hc (k * 1) (by omega), Nat.mul_one]
        simp [nums, List.getElem?_eq_getElem hk]
      · have := least_bnd l ms ms.length _ (List.getElem_mem hk)
        unfold Wide; omega
  · obtain ⟨_, _, _, e1, e2⟩ := all_bad hb
    rw [e1, e2]
    have BG := Lib.hid (beginG_any l ms al am cl cm w h.clks h.lmts h.fl h.fm)
    obtain ⟨B, hB⟩ : ∃ B, bgE l ms = B := ⟨_, rfl⟩
    rw [hB] at BG hb ⊢
    have bb : (B != 0) = true := by simp [hb]
    clear h hB hb e1 e2
    go_enter Tryz.func20, Tryz.ntmps20
    go_wp2_with fail
    refine BG.out.mono ?_
    rintro e w1 ⟨rfl, hg1⟩
    go_wp2_with fail
    go_ret2
    exact ⟨none, 0, rfl, SlOf.nil _ _ _ _, hg1⟩
theorem brns_mvd {b len base : Nat} {w w' : World} {v : Value} {xs : List (Brn × Option Addr × Nat)} (h : BrnsAt base w v xs) (m : Mv b len w w') (hb : b < base) : BrnsAt base w' v xs := ⟨m.owns h.1 hb, fun x hx => ⟨m.own1 (h.2 x hx).1 hb, (h.2 x hx).2⟩⟩
/-- Branches and an error; the branches lie in rows of the call's own. -/
def GivesBE (w : World) (en : Int) (e : Ending) (w' : World) : Prop := ∃ (bs : List Brn) (a : Option Addr) (c : Nat), e = .returned (.tuple #[.slice a bs.length c, .int .i64 en]) ∧ (∀ b len W, b < w.heap.size → Mv b len w' W → SlOf 3 RBrn W a bs) ∧ bs.length ≤ 90000 ∧ (∀ x ∈ bs, x.next.length ≤ 900) ∧ Gr w w'
set_option maxRecDepth 100000 in
set_option maxHeartbeats 1000000 in
theorem refuteG_any (l : List Clk) (ms : List Lmt) (al am : Option Addr) (cl cm : Nat) (w : World) (h : GEnv w l ms al am) :
    Calls Tryz.prog 22 #[.slice al l.length cl, .slice am ms.length cm] w (GivesBE w (rfE l ms)) := by
  by_cases hb : bgE l ms = 0
  · refine (refute_any l ms al am cl cm w (h.env hb)).mono ?_
    rintro e w' ⟨hg, ⟨hex, rfl⟩ | ⟨hno, A, cap, xs, rfl, hbr, hxs⟩⟩
    · obtain ⟨e1, _⟩ := rf_some hb hex
      rw [e1]
      exact ⟨[], none, 0, rfl, fun _ _ _ _ _ => SlOf.nil _ _ _ _, by simp, by simp, hg⟩
    · obtain ⟨e1, _⟩ := rf_none hb hno
      rw [e1]
      obtain ⟨rw1, rw2, rw3⟩ := refS_w (bgE_zero hb).1 (bgE_zero hb).2 hno
      rw [← hxs] at rw1 rw2 rw3
      exact ⟨xs.map (·.1), A, cap, by rw [List.length_map], fun b len W hb m => brns_at (brns_mvd hbr m hb) rw1, by omega, fun x hx => by have := (rw1 x hx).2.2.1; omega, hg⟩
  · obtain ⟨_, _, _, e1, _⟩ := all_bad hb
    rw [e1]
    have SV := Lib.hid (solveG_any l ms al am cl cm w h)
    obtain ⟨e2, e3, _⟩ := all_bad hb
    rw [e2, e3] at SV
    have hrange : bgE l ms ≠ 9 := bgE_ne l ms
    obtain ⟨B, hB⟩ : ∃ B, bgE l ms = B := ⟨_, rfl⟩
    rw [hB] at SV hb hrange ⊢
    have bb : (B == 0) = false := by simp [hb]
    have bc : (B != 9) = true := by simp [hrange]
    clear h hB hb e1 e2 e3 hrange
    go_enter Tryz.func22, Tryz.ntmps22
    go_wp2_with fail
    refine SV.out.mono ?_
    rintro e w1 ⟨a, c, rfl, _, hg1⟩
    go_wp2_with fail
    go_ret2
    exact ⟨[], none, 0, rfl, fun _ _ _ _ _ => SlOf.nil _ _ _ _, by simp, by simp, hg1⟩
end Go.Proofs.YtenehghpmnajpaaGreatDoor

set_option linter.unusedVariables false
set_option linter.unusedSimpArgs false
namespace Go.Proofs.YtenehghpmnajpaaGreatDoor
open Go.RowKit
open Classical
set_option maxRecDepth 100000 in
set_option maxHeartbeats 1000000 in
theorem refSolveG_any (l : List Clk) (ms : List Lmt) (al am : Option Addr) (cl cm : Nat) (w : World) (h : GEnv w l ms al am) :
    Calls Tryz.prog 17 #[.slice al l.length cl, .slice am ms.length cm] w (GivesNE w (solL l ms) (solE l ms)) := by
  have BG := Lib.hid (refBeginG_any l ms al am cl cm w h.clks h.lmts h.fl h.fm)
  by_cases hb : bgE l ms = 0
  · have RA := Lib.hid (fun W (hW : Gr w W) => refAll_any l ms al am cl cm W ((h.gr hW).env hb))
    have HB := Lib.hid hb
    rw [hb] at BG
    clear h hb
    go_enter Tryz.func17, Tryz.ntmps17
    go_wp2_with fail
    refine BG.out.mono ?_
    rintro e w1 ⟨rfl, hg1⟩
    have G1 := Lib.hid hg1
    clear hg1 BG
    go_wp2_with fail
    refine (RA.out w1 G1.out).mono ?_
    rintro e w2 ⟨os, a, c, rfl, hg2, ho, hoa, hom⟩
    have G2 := Lib.hid (G1.out.trans hg2)
    have hc := (bgE_zero HB.out).1
    have ML := metL_len l ms (prodC l)
    rw [← hom, List.length_map] at ML
    clear hg2 RA
    cases os with
    | nil =>
      have h0 : cntS l ms = 0 := ML.symm
      obtain ⟨e1, e2⟩ := sol_none HB.out ((cntS_zero hc).1 h0)
      have E1 := Lib.hid e1
      have E2 := Lib.hid e2
      simp only [List.length_nil] at *
      clear ho hoa hom ML h0 e1 e2
      go_wp2_with fail
      go_ret2
      refine ⟨none, 0, ?_, ?_, G2.out⟩
      · rw [E1.out, E2.out]; rfl
      · rw [E1.out]; exact SlOf.nil _ _ _ _
    | cons o os =>
      have hne : cntS l ms ≠ 0 := by
        have : (o :: os).length = cntS l ms := ML
        simp at this; omega
      have hmem : o.t ∈ metL l ms (prodC l) := by rw [← hom]; simp
      have hs : SetOk l o.t := by
        unfold metL at hmem
        have := (List.mem_filter.1 hmem).1
        obtain ⟨i, hi, e⟩ := List.mem_map.1 this
        rw [← e]
        exact (setN_ok (allOk_cho (cchk_zero hc).2.1) (List.mem_range.1 hi)).1
      have e1 : solL l ms = o.t := by
        unfold solL
        rw [if_pos HB.out, ← hom]; rfl
      have e2 : solE l ms = 0 := by unfold solE; rw [if_pos HB.out, if_neg hne]
      obtain ⟨g, cap, eA, _, _, hcell⟩ := owns_cell ho (by simp)
      cases eA
      have q0 := hcell 0 (by simp)
      simp only [List.map_cons, List.getElem?_cons_zero, encO] at q0
      have qh := has_of_cell q0
      have RO := Lib.hid ((hoa o (by simp)).1)
      have l2 : (0 : Int) < ((o :: os).length : Int) := by simp
      have l3 : (((o :: os).length : Int) == 0) = false := by rw [beq_eq_false_iff_ne]; omega
      obtain ⟨n, hn⟩ : ∃ n, (o :: os).length = n := ⟨_, rfl⟩
      rw [hn] at l2 l3 ⊢
      have E1 := Lib.hid e1
      have E2 := Lib.hid e2
      have HS := Lib.hid hs
      have l4 : 0 < n := by omega
      clear ho hoa hom ML hne hmem hs e1 e2 hcell hn
      go_wp2_with fail
      go_ret2
      refine ⟨some ⟨o.B, 0, none⟩, o.c, ?_, ?_, G2.out⟩
      · rw [E1.out, E2.out, HS.out.1]; rfl
      · rw [E1.out]; exact RO.out.slI (setOk_wide hc HS.out)
  · obtain ⟨e1, e2, _⟩ := all_bad hb
    rw [e1, e2]
    obtain ⟨B, hB⟩ : ∃ B, bgE l ms = B := ⟨_, rfl⟩
    rw [hB] at BG hb ⊢
    have bb : (B != 0) = true := by simp [hb]
    clear h hB hb e1 e2
    go_enter Tryz.func17, Tryz.ntmps17
    go_wp2_with fail
    refine BG.out.mono ?_
    rintro e w1 ⟨rfl, hg1⟩
    go_wp2_with fail
    go_ret2
    exact ⟨none, 0, rfl, SlOf.nil _ _ _ _, hg1⟩
/-- As many settings as meet the limits. -/
theorem refAllN_any (l : List Clk) (ms : List Lmt) (al am : Option Addr) (cl cm : Nat) (w : World) (h : Env w l ms al am) :
    Calls Tryz.prog 62 #[.slice al l.length cl, .slice am ms.length cm] w fun e w' => ∃ a c, e = .returned (.slice a (cntS l ms) c) ∧ Gr w w' := (refAll_any l ms al am cl cm w h).mono (by
    rintro e w' ⟨os, a, c, rfl, hg, _, _, hm⟩
    have h3 := congrArg List.length hm
    rw [List.length_map, metL_len] at h3
    exact ⟨a, c, by rw [h3]; rfl, hg⟩)
set_option maxRecDepth 100000 in
set_option maxHeartbeats 1000000 in
theorem refCountG_any (l : List Clk) (ms : List Lmt) (al am : Option Addr) (cl cm : Nat) (w : World) (h : GEnv w l ms al am) :
    Calls Tryz.prog 19 #[.slice al l.length cl, .slice am ms.length cm] w (Grows w (.tuple #[.int .i64 (cntG l ms), .int .i64 (bgE l ms)])) := by
  have BG := Lib.hid (refBeginG_any l ms al am cl cm w h.clks h.lmts h.fl h.fm)
  by_cases hb : bgE l ms = 0
  · have RA := Lib.hid (fun W (hW : Gr w W) => refAllN_any l ms al am cl cm W ((h.gr hW).env hb))
    have E : Hid (cntG l ms = (cntS l ms : Int)) := Lib.hid (by unfold cntG; rw [if_pos hb])
    rw [E.out]
    rw [hb] at BG ⊢
    obtain ⟨N, hN⟩ : ∃ N, cntS l ms = N := ⟨_, rfl⟩
    rw [hN] at RA ⊢
    clear h hb hN E
    go_enter Tryz.func19, Tryz.ntmps19
    go_wp2_with fail
    refine BG.out.mono ?_
    rintro e w1 ⟨rfl, hg1⟩
    have G1 := Lib.hid hg1
    clear hg1 BG
    go_wp2_with fail
    refine (RA.out w1 G1.out).mono ?_
    rintro e w2 ⟨a, c, rfl, hg2⟩
    have G2 := Lib.hid (G1.out.trans hg2)
    clear hg2 RA
    go_wp2_with fail
    go_ret2
    exact ⟨rfl, G2.out⟩
  · obtain ⟨_, _, e3, _⟩ := all_bad hb
    rw [e3]
    obtain ⟨B, hB⟩ : ∃ B, bgE l ms = B := ⟨_, rfl⟩
    rw [hB] at BG hb ⊢
    have bb : (B != 0) = true := by simp [hb]
    clear h hB hb e3
    go_enter Tryz.func19, Tryz.ntmps19
    go_wp2_with fail
    refine BG.out.mono ?_
    rintro e w1 ⟨rfl, hg1⟩
    go_wp2_with fail
    go_ret2
    exact ⟨rfl, hg1⟩
set_option maxRecDepth 100000 in
set_option maxHeartbeats 1000000 in
theorem refutableG_any (l : List Clk) (ms : List Lmt) (al am : Option Addr) (cl cm : Nat) (w : World) (h : GEnv w l ms al am) :
    Calls Tryz.prog 23 #[.slice al l.length cl, .slice am ms.length cm] w (Grows w (.int .i64 (rfE l ms))) := by
  by_cases hb : bgE l ms = 0
  · have := refutable_any l ms al am cl cm w (h.env hb)
    unfold rfE
    rw [if_pos hb]; exact this
  · have BG := Lib.hid (refBeginG_any l ms al am cl cm w h.clks h.lmts h.fl h.fm)
    obtain ⟨_, _, _, e3, _⟩ := all_bad hb
    rw [e3]
    obtain ⟨B, hB⟩ : ∃ B, bgE l ms = B := ⟨_, rfl⟩
    rw [hB] at BG hb ⊢
    have bb : (B != 0) = true := by simp [hb]
    clear h hB hb e3
    go_enter Tryz.func23, Tryz.ntmps23
    go_wp2_with fail
    refine BG.out.mono ?_
    rintro e w1 ⟨rfl, hg1⟩
    go_wp2_with fail
    go_ret
    exact ⟨rfl, hg1⟩
end Go.Proofs.YtenehghpmnajpaaGreatDoor

set_option linter.unusedVariables false
set_option linter.unusedSimpArgs false
namespace Go.Proofs.YtenehghpmnajpaaGreatDoor
open Go.RowKit
open Classical
abbrev brnAt (b : List Brn) (i : Nat) : Brn := b.getD i ⟨0, 0, []⟩
def nxV2 (b : List Brn) (i q : Nat) : Int := (brnAt b i).next.getD q 0
def nxL (b : List Brn) (i : Nat) : Nat := (brnAt b i).next.length
/-- A branch is right with a setting. -/
def LocOk (l : List Clk) (ms : List Lmt) (b : List Brn) (i : Nat) (t : List Int) : Prop :=
  (0 ≤ (brnAt b i).limit ∧ LeafOk l ms t (brnAt b i)) ∨ (¬ 0 ≤ (brnAt b i).limit ∧ NodeOk l t (brnAt b i))
theorem loc_leaf {l : List Clk} {ms : List Lmt} {b : List Brn} {i : Nat} {t : List Int} (h : 0 ≤ (brnAt b i).limit) (k : LeafOk l ms t (brnAt b i)) : nxL b i = 0 := by
  unfold nxL; rw [k.2.1]; rfl
/-- Each branch has a setting; each but the first is in one list of the others. -/
structure Good (l : List Clk) (ms : List Lmt) (b : List Brn) (σ : Nat → List Int) : Prop where
  root : σ 0 = startS l
  loc : ∀ i, i < b.length → LocOk l ms b i (σ i)
  kid : ∀ i, i < b.length → ∀ q, q < nxL b i → ∃ k : Nat, nxV2 b i q = k ∧ i < k ∧ k < b.length ∧ σ k = (σ i).set (brnAt b i).clock.toNat (q : Int)
  inj : ∀ i, i < b.length → ∀ q, q < nxL b i → ∀ i', i' < b.length → ∀ q', q' < nxL b i' → nxV2 b i q = nxV2 b i' q' → i = i' ∧ q = q'
  all : ∀ k : Nat, 0 < k → k < b.length → ∃ i, i < b.length ∧ ∃ q, q < nxL b i ∧ nxV2 b i q = k
/-- What the program's check visits behind a branch. -/
structure VisOk (l : List Clk) (ms : List Lmt) (b : List Brn) (i : Nat) (s : List Int) (N N' : List Bool) (V : Nat → Option (List Int)) : Prop where
  len : N'.length = N.length
  nam : ∀ k, N'.getD k false = (N.getD k false || (V k).isSome)
  dis : ∀ k, (V k).isSome = true → N.getD k false = false
  low : ∀ k, (V k).isSome = true → i < k ∧ k < b.length
  loc : LocOk l ms b i s
  kid : ∀ q, q < nxL b i → ∃ k : Nat, nxV2 b i q = k ∧ i < k ∧ V k = some (s.set (brnAt b i).clock.toNat (q : Int))
  locs : ∀ j t, V j = some t → LocOk l ms b j t
  kids : ∀ j t, V j = some t → ∀ q, q < nxL b j → ∃ k : Nat, nxV2 b j q = k ∧ j < k ∧ V k = some (t.set (brnAt b j).clock.toNat (q : Int))
  inj : ∀ j j', (j = i ∨ (V j).isSome = true) → (j' = i ∨ (V j').isSome = true) → ∀ q q', q < nxL b j → q' < nxL b j' → nxV2 b j q = nxV2 b j' q' → j = j' ∧ q = q'
  frm : ∀ k : Nat, (V k).isSome = true → ∃ j, (j = i ∨ (V j).isSome = true) ∧ ∃ q, q < nxL b j ∧ nxV2 b j q = k
/-- .. after some of its lists. -/
structure KidOk (l : List Clk) (ms : List Lmt) (b : List Brn) (i : Nat) (s : List Int) (N N' : List Bool) (V : Nat → Option (List Int)) (m : Nat) : Prop where
  len : N'.length = N.length
  nam : ∀ k, N'.getD k false = (N.getD k false || (V k).isSome)
  dis : ∀ k, (V k).isSome = true → N.getD k false = false
  low : ∀ k, (V k).isSome = true → i < k ∧ k < b.length
  kid : ∀ q, q < m → ∃ k : Nat, nxV2 b i q = k ∧ i < k ∧ V k = some (s.set (brnAt b i).clock.toNat (q : Int))
  locs : ∀ j t, V j = some t → LocOk l ms b j t
  kids : ∀ j t, V j = some t → ∀ q, q < nxL b j → ∃ k : Nat, nxV2 b j q = k ∧ j < k ∧ V k = some (t.set (brnAt b j).clock.toNat (q : Int))
  inj : ∀ j j', (V j).isSome = true → (V j').isSome = true → ∀ q q', q < nxL b j → q' < nxL b j' → nxV2 b j q = nxV2 b j' q' → j = j' ∧ q = q'
  far : ∀ j, (V j).isSome = true → ∀ q p, q < nxL b j → p < m → nxV2 b j q ≠ nxV2 b i p
  hd : ∀ p p', p < m → p' < m → nxV2 b i p = nxV2 b i p' → p = p'
  frm : ∀ k : Nat, (V k).isSome = true → (∃ q, q < m ∧ nxV2 b i q = k) ∨ ∃ j, (V j).isSome = true ∧ ∃ q, q < nxL b j ∧ nxV2 b j q = k
theorem getD_false_set {N : List Bool} {c k : Nat} (hc : c < N.length) : (N.set c true).getD k false = if k = c then true else N.getD k false := getD_set N c k true false hc
theorem kid_step {l : List Clk} {ms : List Lmt} {b : List Brn} {i m c : Nat} {s : List Int} {N N1 N2 : List Bool} {V W : Nat → Option (List Int)} (h : KidOk l ms b i s N N1 V m) (hN : N.length = b.length) (hv : nxV2 b i m = (c : Int)) (hic : i < c) (hcn : c < b.length) (hfree : N1.getD c false = false)
    (g : VisOk l ms b c (s.set (brnAt b i).clock.toNat (m : Int)) (N1.set c true) N2 W) :
    KidOk l ms b i s N N2 (fun k => if k = c then some (s.set (brnAt b i).clock.toNat (m : Int)) else match V k with | some x => some x | none => W k) (m + 1) := by
  have hc1 : c < N1.length := by rw [h.len, hN]; exact hcn
  have Vc : V c = none := by
    cases e : V c with
    | none => rfl
    | some x => have := h.nam c; rw [hfree, e] at this; simp at this
  have WN : ∀ k, (W k).isSome = true → k ≠ c ∧ V k = none := fun k hk => by
    have h1 := g.dis k hk
    rw [getD_false_set hc1] at h1
    by_cases e : k = c
    · rw [if_pos e] at h1; cases h1
    · rw [if_neg e] at h1
      refine ⟨e, ?_⟩
      cases e2 : V k with
      | none => rfl
      | some x => have := h.nam k; rw [h1, e2] at this; simp at this
  obtain ⟨U, hU⟩ : ∃ U : Nat → Option (List Int), U = fun k => if k = c then some (s.set (brnAt b i).clock.toNat (m : Int)) else match V k with | some x => some x | none => W k := ⟨_, rfl⟩
  rw [← hU]
  have Uc : U c = some (s.set (brnAt b i).clock.toNat (m : Int)) := by rw [hU]; simp
  have UV : ∀ k x, V k = some x → U k = some x := fun k x e => by
    have : k ≠ c := fun q => by rw [q, Vc] at e; cases e
    rw [hU]; simp only [if_neg this, e]
  have UW : ∀ k x, W k = some x → U k = some x := fun k x e => by
    obtain ⟨n1, n2⟩ := WN k (by rw [e]; rfl)
    rw [hU]; simp only [if_neg n1, n2]; exact e
  have UC : ∀ k x, U k = some x → (k = c ∧ x = s.set (brnAt b i).clock.toNat (m : Int)) ∨ V k = some x ∨ W k = some x := fun k x e => by
    rw [hU] at e
    simp only at e
    by_cases q : k = c
    · rw [if_pos q] at e
      exact .inl ⟨q, (Option.some.inj e).symm⟩
    · rw [if_neg q] at e
      cases e2 : V k with
      | none => rw [e2] at e; exact .inr (.inr e)
      | some y => rw [e2] at e; exact .inr (.inl e)
  have US : ∀ k, (U k).isSome = true → k = c ∨ (V k).isSome = true ∨ (W k).isSome = true := fun k hk => by
    obtain ⟨x, hx⟩ := Option.isSome_iff_exists.1 hk
    rcases UC k x hx with q | q | q
    · exact .inl q.1
    · exact .inr (.inl (by rw [q]; rfl))
    · exact .inr (.inr (by rw [q]; rfl))
  have UVs : ∀ k, (V k).isSome = true → (U k).isSome = true := fun k hk => by
    obtain ⟨x, hx⟩ := Option.isSome_iff_exists.1 hk
    rw [UV k x hx]; rfl
  have UWs : ∀ k, (W k).isSome = true → (U k).isSome = true := fun k hk => by
    obtain ⟨x, hx⟩ := Option.isSome_iff_exists.1 hk
    rw [UW k x hx]; rfl
  -- values of lists of branches behind c are behind c
  have valW : ∀ j, (j = c ∨ (W j).isSome = true) → ∀ q, q < nxL b j → ∃ k : Nat, nxV2 b j q = k ∧ (W k).isSome = true := fun j hj q hq => by
    rcases hj with rfl | hj
    · obtain ⟨k, e, _, e2⟩ := g.kid q hq
      exact ⟨k, e, by rw [e2]; rfl⟩
    · obtain ⟨x, hx⟩ := Option.isSome_iff_exists.1 hj
      obtain ⟨k, e, _, e2⟩ := g.kids j x hx q hq
      exact ⟨k, e, by rw [e2]; rfl⟩
  have valV : ∀ j, (V j).isSome = true → ∀ q, q < nxL b j → ∃ k : Nat, nxV2 b j q = k ∧ (V k).isSome = true := fun j hj q hq => by
    obtain ⟨x, hx⟩ := Option.isSome_iff_exists.1 hj
    obtain ⟨k, e, _, e2⟩ := h.kids j x hx q hq
    exact ⟨k, e, by rw [e2]; rfl⟩
  have noVW : ∀ k, (V k).isSome = true → (W k).isSome = true → False := fun k h1 h2 => by
    rw [(WN k h2).2] at h1; cases h1
  refine ⟨?_, ?_, ?_, ?_, ?_, ?_, ?_, ?_, ?_, ?_, ?_⟩
  · rw [g.len, List.length_set, h.len]
  · intro k
    rw [g.nam, getD_false_set hc1, h.nam]
    by_cases q : k = c
    · subst q; rw [if_pos rfl, Uc]; simp
    · rw [if_neg q, Bool.or_assoc]
      congr 1
      rw [hU]
      simp only [if_neg q]
      cases V k with
      | none => simp
      | some x => simp
  · intro k hk
    rcases US k hk with q | q | q
    · subst q
      have := h.nam k
      rw [hfree, Vc] at this
      simpa using this.symm
    · exact h.dis k q
    · have h1 := g.dis k q
      rw [getD_false_set hc1, if_neg (WN k q).1, h.nam] at h1
      simp only [Bool.or_eq_false_iff] at h1
      exact h1.1
  · intro k hk
    rcases US k hk with q | q | q
    · subst q; exact ⟨hic, hcn⟩
    · exact h.low k q
    · have := g.low k q
      omega
  · intro q hq
    by_cases e : q = m
    · subst e; exact ⟨c, hv, hic, Uc⟩
    · obtain ⟨k, e1, e2, e3⟩ := h.kid q (by omega)
      exact ⟨k, e1, e2, UV k _ e3⟩
  · intro j t hj
    rcases UC j t hj with ⟨rfl, rfl⟩ | q | q
    · exact g.loc
    · exact h.locs j t q
    · exact g.locs j t q
  · intro j t hj q hq
    rcases UC j t hj with ⟨rfl, rfl⟩ | e | e
    · obtain ⟨k, e1, e2, e3⟩ := g.kid q hq
      exact ⟨k, e1, e2, UW k _ e3⟩
    · obtain ⟨k, e1, e2, e3⟩ := h.kids j t e q hq
      exact ⟨k, e1, e2, UV k _ e3⟩
    · obtain ⟨k, e1, e2, e3⟩ := g.kids j t e q hq
      exact ⟨k, e1, e2, UW k _ e3⟩
  · intro j j' hj hj' q q' hq hq' he
    have cl : ∀ j, (U j).isSome = true → (V j).isSome = true ∨ (j = c ∨ (W j).isSome = true) := fun j hj => by
      rcases US j hj with e | e | e
      · exact .inr (.inl e)
      · exact .inl e
      · exact .inr (.inr e)
    rcases cl j hj with a1 | a1 <;> rcases cl j' hj' with a2 | a2
    · exact h.inj j j' a1 a2 q q' hq hq' he
    · obtain ⟨k, e1, e2⟩ := valV j a1 q hq
      obtain ⟨k', e3, e4⟩ := valW j' a2 q' hq'
      have : k = k' := by rw [e1, e3] at he; omega
      subst this
      exact (noVW k e2 e4).elim
    · obtain ⟨k, e1, e2⟩ := valW j a1 q hq
      obtain ⟨k', e3, e4⟩ := valV j' a2 q' hq'
      have : k = k' := by rw [e1, e3] at he; omega
      subst this
      exact (noVW k e4 e2).elim
    · exact g.inj j j' a1 a2 q q' hq hq' he
  · intro j hj q p hq hp he
    rcases US j hj with e | e | e
    · obtain ⟨k, e1, e2⟩ := valW j (.inl e) q hq
      by_cases ep : p = m
      · subst ep
        rw [hv, e1] at he
        have : k = c := by omega
        exact (WN k e2).1 this
      · obtain ⟨k', e3, _, e4⟩ := h.kid p (by omega)
        have : k = k' := by rw [e1, e3] at he; omega
        subst this
        exact noVW k (by rw [e4]; rfl) e2
    · by_cases ep : p = m
      · subst ep
        obtain ⟨k, e1, e2⟩ := valV j e q hq
        rw [hv, e1] at he
        have : k = c := by omega
        rw [this, Vc] at e2; cases e2
      · exact h.far j e q p hq (by omega) he
    · obtain ⟨k, e1, e2⟩ := valW j (.inr e) q hq
      by_cases ep : p = m
      · subst ep
        rw [hv, e1] at he
        have : k = c := by omega
        exact (WN k e2).1 this
      · obtain ⟨k', e3, _, e4⟩ := h.kid p (by omega)
        have : k = k' := by rw [e1, e3] at he; omega
        subst this
        exact noVW k (by rw [e4]; rfl) e2
  · intro p p' hp hp' he
    by_cases e1 : p = m
    · by_cases e2 : p' = m
      · omega
      · subst e1
        obtain ⟨k', e3, _, e4⟩ := h.kid p' (by omega)
        rw [hv, e3] at he
        have : k' = c := by omega
        rw [this, Vc] at e4; cases e4
    · by_cases e2 : p' = m
      · subst e2
        obtain ⟨k', e3, _, e4⟩ := h.kid p (by omega)
        rw [hv, e3] at he
        have : k' = c := by omega
        rw [this, Vc] at e4; cases e4
      · exact h.hd p p' (by omega) (by omega) he
  · intro k hk
    rcases US k hk with q | q | q
    · subst q; exact .inl ⟨m, by omega, hv⟩
    · rcases h.frm k q with ⟨q', h1, h2⟩ | ⟨j, h1, q', h2, h3⟩
      · exact .inl ⟨q', by omega, h2⟩
      · exact .inr ⟨j, UVs j h1, q', h2, h3⟩
    · obtain ⟨j, h1, q', h2, h3⟩ := g.frm k q
      rcases h1 with rfl | h1
      · exact .inr ⟨j, by rw [Uc]; rfl, q', h2, h3⟩
      · exact .inr ⟨j, UWs j h1, q', h2, h3⟩
theorem vis_ok {l : List Clk} {ms : List Lmt} {b : List Brn} : ∀ g i s N N', N.length = b.length → i < b.length → visP l ms b g i s N = some N' → ∃ V, VisOk l ms b i s N N' V := by
  intro g
  induction g with
  | zero => intro i s N N' _ _ h; cases h
  | succ g ih =>
    intro i s N N' hN hi h
    have eb : b[i]? = some (brnAt b i) := by rw [brnAt, List.getD_eq_getElem?_getD, List.getElem?_eq_getElem hi]; rfl
    simp only [visP, eb] at h
    by_cases hl : 0 ≤ (brnAt b i).limit
    · rw [if_pos hl] at h
      by_cases hlf : LeafOk l ms s (brnAt b i)
      · rw [if_pos hlf] at h
        injection h with h
        subst h
        have z := loc_leaf hl hlf
        refine ⟨fun _ => none, rfl, fun k => by simp, fun k hk => (by cases hk), fun k hk => (by cases hk), .inl ⟨hl, hlf⟩, fun q hq => by omega, fun j t hj => (by cases hj), fun j t hj => (by cases hj), fun j j' hj hj' q q' hq => ?_, fun k hk => (by cases hk)⟩
        rcases hj with rfl | hj
        · omega
        · cases hj
      · rw [if_neg hlf] at h; cases h
    · rw [if_neg hl] at h
      by_cases hnd : NodeOk l s (brnAt b i)
      · rw [if_pos hnd] at h
        have key : ∀ m N1, m ≤ nxL b i → kidsP (visP l ms b g) b.length i (brnAt b i).clock.toNat s (brnAt b i).next N m = some N1 → ∃ V, KidOk l ms b i s N N1 V m := by
          intro m
          induction m with
          | zero =>
            intro N1 _ e
            injection e with e
            subst e
            exact ⟨fun _ => none, rfl, fun k => by simp, fun k hk => (by cases hk), fun k hk => (by cases hk), fun q hq => by omega, fun j t hj => (by cases hj), fun j t hj => (by cases hj), fun j j' hj => (by cases hj), fun j hj => (by cases hj), fun p p' hp => by omega, fun k hk => (by cases hk)⟩
          | succ m ihm =>
            intro N2 hm e
            simp only [kidsP] at e
            cases e1 : kidsP (visP l ms b g) b.length i (brnAt b i).clock.toNat s (brnAt b i).next N m with
            | none => rw [e1] at e; cases e
            | some N1 =>
              rw [e1] at e
              simp only [Option.bind_some] at e
              obtain ⟨V, hV⟩ := ihm N1 (by omega) e1
              split at e
              · cases e
              · rename_i hno
                have hc : nxV2 b i m = (brnAt b i).next.getD m 0 := rfl
                obtain ⟨c, ec⟩ : ∃ c : Nat, (brnAt b i).next.getD m 0 = c := ⟨((brnAt b i).next.getD m 0).toNat, by omega⟩
                rw [ec] at e hno
                rw [Int.toNat_natCast] at e hno
                have hfree : N1.getD c false = false := by
                  cases q : N1.getD c false with
                  | false => rfl
                  | true => exact absurd (.inr (.inr q)) hno
                obtain ⟨W, hW⟩ := ih c _ (N1.set c true) N2 (by rw [List.length_set, hV.len, hN]) (by omega) e
                exact ⟨_, kid_step hV hN (by rw [hc, ec]) (by omega) (by omega) hfree hW⟩
        obtain ⟨V, hV⟩ := key _ N' (Nat.le_refl _) h
        refine ⟨V, hV.len, hV.nam, hV.dis, hV.low, .inr ⟨hl, hnd⟩, hV.kid, hV.locs, hV.kids, ?_, ?_⟩
        · intro j j' hj hj' q q' hq hq' he
          rcases hj with rfl | hj <;> rcases hj' with rfl | hj'
          · exact ⟨rfl, hV.hd q q' hq hq' he⟩
          · exact absurd he.symm (hV.far j' hj' q' q hq' hq)
          · exact absurd he (hV.far j hj q q' hq hq')
          · exact hV.inj j j' hj hj' q q' hq hq' he
        · intro k hk
          rcases hV.frm k hk with ⟨q, h1, h2⟩ | ⟨j, h1, q, h2, h3⟩
          · exact ⟨i, .inl rfl, q, h1, h2⟩
          · exact ⟨j, .inr h1, q, h2, h3⟩
      · rw [if_neg hnd] at h; cases h
theorem good_of_prg {l : List Clk} {ms : List Lmt} {b : List Brn} (hb : 0 < b.length) (h : prgChk l ms b = true) : ∃ σ, Good l ms b σ := by
  unfold prgChk at h
  cases hv : visP l ms b b.length 0 (startS l) (List.replicate b.length false) with
  | none => rw [hv] at h; cases h
  | some N =>
    rw [hv] at h
    obtain ⟨V, H⟩ := vis_ok _ _ _ _ _ (by simp) hb hv
    have z : ∀ k, (List.replicate b.length false).getD k false = false := fun k => by
      rw [List.getD_eq_getElem?_getD, List.getElem?_replicate]; split <;> rfl
    have al : ∀ k, 0 < k → k < b.length → (V k).isSome = true := fun k h0 h1 => by
      have hl : N.length = b.length := by rw [H.len]; simp
      have hm : N.getD k false = true := by
        rw [List.all_eq_true] at h
        have := h (N[k]'(by omega)) (by
          rw [List.mem_iff_getElem]
          exact ⟨k - 1, by rw [List.length_drop]; omega, by rw [List.getElem_drop]; congr 1; omega⟩)
        rw [List.getD_eq_getElem?_getD, List.getElem?_eq_getElem (by omega)]
        simpa using this
      have := H.nam k
      rw [hm, z] at this
      simpa using this.symm
    have dm : ∀ k, k < b.length → k = 0 ∨ (V k).isSome = true := fun k hk => by
      by_cases e : k = 0
      · exact .inl e
      · exact .inr (al k (by omega) hk)
    refine ⟨fun k => if k = 0 then startS l else (V k).getD [], by simp, fun i hi => ?_, fun i hi q hq => ?_, fun i hi q hq i' hi' q' hq' he => H.inj i i' (dm i hi) (dm i' hi') q q' hq hq' he, fun k h0 h1 => ?_⟩
    · by_cases e : i = 0
      · subst e; rw [if_pos rfl]; exact H.loc
      · rw [if_neg e]
        obtain ⟨t, ht⟩ := Option.isSome_iff_exists.1 (al i (by omega) hi)
        rw [ht]; exact H.locs i t ht
    · by_cases e : i = 0
      · subst e
        obtain ⟨k, e1, e2, e3⟩ := H.kid q hq
        refine ⟨k, e1, e2, (H.low k (by rw [e3]; rfl)).2, ?_⟩
        rw [if_neg (by omega), if_pos rfl, e3]; rfl
      · obtain ⟨t, ht⟩ := Option.isSome_iff_exists.1 (al i (by omega) hi)
        obtain ⟨k, e1, e2, e3⟩ := H.kids i t ht q hq
        refine ⟨k, e1, e2, (H.low k (by rw [e3]; rfl)).2, ?_⟩
        rw [if_neg (by omega), if_neg e, e3, ht]; rfl
    · obtain ⟨j, hj, q, h2, h3⟩ := H.frm k (al k h0 h1)
      refine ⟨j, ?_, q, h2, h3⟩
      rcases hj with rfl | hj
      · exact hb
      · exact (H.low j hj).2
end Go.Proofs.YtenehghpmnajpaaGreatDoor

set_option linter.unusedVariables false
set_option linter.unusedSimpArgs false
namespace Go.Proofs.YtenehghpmnajpaaGreatDoor
open Go.RowKit
open Classical
/-- A place in a list that comes ahead of (i, j). -/
def Bf (i j p q : Nat) : Prop := p < i ∨ (p = i ∧ q < j)
def Hit (b : List Brn) (i j k : Nat) : Prop := ∃ p q, Bf i j p q ∧ p < b.length ∧ q < nxL b p ∧ nxV2 b p q = (k : Int)
theorem getD_set_sets (vs : Sets) (k j : Nat) (x : Option (List Int)) (hk : k < vs.length) : (vs.set k x).getD j none = if j = k then x else vs.getD j none := getD_set vs k j x none hk
/-! From a good setting to the reference's check -/
structure RefAt2 (b : List Brn) (σ : Nat → List Int) (i j : Nat) (S : Sets) : Prop where
  len : S.length = b.length
  yes : ∀ k, k < b.length → (k = 0 ∨ Hit b i j k) → S.getD k none = some (σ k)
  no : ∀ k, k < b.length → ¬ (k = 0 ∨ Hit b i j k) → S.getD k none = none
theorem hit_end {b : List Brn} {i k : Nat} : Hit b (i + 1) 0 k ↔ Hit b i (nxL b i) k := by
  constructor
  · rintro ⟨p, q, h, h1, h2, h3⟩
    refine ⟨p, q, ?_, h1, h2, h3⟩
    rcases h with h | ⟨_, h⟩
    · by_cases e : p = i
      · subst e; exact .inr ⟨rfl, h2⟩
      · exact .inl (by omega)
    · omega
  · rintro ⟨p, q, h, h1, h2, h3⟩
    exact ⟨p, q, .inl (by rcases h with h | h <;> omega), h1, h2, h3⟩
theorem ref_of_good {l : List Clk} {ms : List Lmt} {b : List Brn} {σ : Nat → List Int} (hb : 0 < b.length) (G : Good l ms b σ) : ∀ i, i ≤ b.length → ∃ S, runRf l ms b i = some S ∧ RefAt2 b σ i 0 S := by
  intro i
  induction i with
  | zero =>
    intro _
    refine ⟨_, rfl, by simp; omega, fun k hk h => ?_, fun k hk h => ?_⟩
    · rcases h with rfl | ⟨p, q, h, _⟩
      · rw [G.root]; rfl
      · rcases h with h | h <;> omega
    · obtain ⟨k', rfl⟩ : ∃ k', k = k' + 1 := ⟨k - 1, by
        have : k ≠ 0 := fun e => h (.inl e)
        omega⟩
      rw [List.getD_eq_getElem?_getD, List.getElem?_cons_succ, List.getElem?_replicate]; split <;> rfl
  | succ i ih =>
    intro hi
    obtain ⟨S, hS, H⟩ := ih (by omega)
    have hSi : S.getD i none = some (σ i) := by
      refine H.yes i (by omega) ?_
      by_cases e : i = 0
      · exact .inl e
      · obtain ⟨p, hp, q, hq, he⟩ := G.all i (by omega) (by omega)
        obtain ⟨k, e1, e2, _⟩ := G.kid p hp q hq
        have : k = i := by rw [e1] at he; omega
        exact .inr ⟨p, q, .inl (by omega), hp, hq, he⟩
    simp only [runRf]
    rw [hS]
    simp only [Option.bind_some, stepRf, hSi]
    rcases G.loc i (by omega) with ⟨h0, hl⟩ | ⟨h0, hn⟩
    · have z := loc_leaf h0 hl
      rw [if_pos h0, if_pos hl]
      have hh : ∀ k, Hit b (i + 1) 0 k ↔ Hit b i 0 k := fun k => by rw [hit_end, z]
      exact ⟨S, rfl, H.len, fun k hk h => H.yes k hk (h.imp id (hh k).1), fun k hk h => H.no k hk (fun q => h (q.imp id (hh k).2))⟩
    · rw [if_neg h0, if_pos hn]
      have key : ∀ j, j ≤ nxL b i → ∃ T, kidsR b.length i (brnAt b i).clock (σ i) (brnAt b i).next S j = some T ∧ RefAt2 b σ i j T := by
        intro j
        induction j with
        | zero => intro _; exact ⟨S, rfl, H⟩
        | succ j ihj =>
          intro hj
          obtain ⟨T, hT, HT⟩ := ihj (by omega)
          obtain ⟨k, e1, e2, e3, e4⟩ := G.kid i (by omega) j (by omega)
          have ev : (brnAt b i).next.getD j 0 = (k : Int) := e1
          have hno : T.getD k none = none := by
            refine HT.no k e3 ?_
            rintro (h | ⟨p, q, h, h1, h2, h3⟩)
            · omega
            · obtain ⟨a1, a2⟩ := G.inj i (by omega) j (by omega) p h1 q h2 (by rw [e1, h3])
              rcases h with h | h <;> omega
          have hk1 : k < T.length := by rw [HT.len]; exact e3
          refine ⟨T.set k (some (σ k)), ?_, by rw [List.length_set, HT.len], fun k' hk' h => ?_, fun k' hk' h => ?_⟩
          · simp only [kidsR]
            rw [hT]
            simp only [Option.bind_some]
            rw [ev, if_neg (by
              rintro (q | q | q)
              · omega
              · omega
              · rw [Int.toNat_natCast, hno] at q; cases q), Int.toNat_natCast, e4]
          · rw [getD_set_sets _ _ _ _ hk1]
            by_cases e : k' = k
            · subst e; rw [if_pos rfl]
            · rw [if_neg e]
              refine HT.yes k' hk' (h.imp id ?_)
              rintro ⟨p, q, h, h1, h2, h3⟩
              refine ⟨p, q, ?_, h1, h2, h3⟩
              rcases h with h | ⟨rfl, h⟩
              · exact .inl h
              · refine .inr ⟨rfl, ?_⟩
                by_cases eq : q = j
                · subst eq; rw [e1] at h3; exact absurd (by omega) e
                · omega
          · have hne : k' ≠ k := fun e => h (.inr ⟨i, j, .inr ⟨rfl, by omega⟩, by omega, by omega, by rw [e1, e]⟩)
            rw [getD_set_sets _ _ _ _ hk1, if_neg hne]
            refine HT.no k' hk' (fun q => h (q.imp id ?_))
            rintro ⟨p, q, h, h1, h2, h3⟩
            exact ⟨p, q, by rcases h with h | h; exact .inl h; exact .inr ⟨h.1, by omega⟩, h1, h2, h3⟩
      obtain ⟨T, hT, HT⟩ := key _ (Nat.le_refl _)
      exact ⟨T, hT, HT.len, fun k hk h => HT.yes k hk (h.imp id hit_end.1), fun k hk h => HT.no k hk (fun q => h (q.imp id hit_end.2))⟩
/-! From the reference's check to a good setting -/
structure RInv (l : List Clk) (ms : List Lmt) (b : List Brn) (i j : Nat) (S : Sets) : Prop where
  len : S.length = b.length
  s0 : S.getD 0 none = some (startS l)
  frm : ∀ k, 0 < k → k < b.length → (S.getD k none).isSome = true → Hit b i j k
  kid : ∀ p q, Bf i j p q → p < b.length → q < nxL b p → ∃ (k : Nat) (t : List Int), nxV2 b p q = k ∧ p < k ∧ k < b.length ∧ S.getD p none = some t ∧ S.getD k none = some (t.set (brnAt b p).clock.toNat (q : Int))
  inj : ∀ p q p' q', Bf i j p q → Bf i j p' q' → p < b.length → p' < b.length → q < nxL b p → q' < nxL b p' → nxV2 b p q = nxV2 b p' q' → p = p' ∧ q = q'
  loc : ∀ p, p < i → p < b.length → ∃ t, S.getD p none = some t ∧ LocOk l ms b p t
theorem RInv.done {l : List Clk} {ms : List Lmt} {b : List Brn} {i : Nat} {S : Sets} {t : List Int} (h : RInv l ms b i (nxL b i) S) (ht : S.getD i none = some t) (hl : LocOk l ms b i t) : RInv l ms b (i + 1) 0 S := by
  have bf : ∀ p q, Bf (i + 1) 0 p q → q < nxL b p → Bf i (nxL b i) p q := fun p q h hq => by
    rcases h with h | h
    · by_cases e : p = i
      · subst e; exact .inr ⟨rfl, hq⟩
      · exact .inl (by omega)
    · omega
  refine ⟨h.len, h.s0, fun k h0 h1 h2 => hit_end.2 (h.frm k h0 h1 h2), fun p q hb hp hq => h.kid p q (bf p q hb hq) hp hq, fun p q p' q' h1 h2 h3 h4 h5 h6 => h.inj p q p' q' (bf p q h1 h5) (bf p' q' h2 h6) h3 h4 h5 h6, fun p hp hpn => ?_⟩
  by_cases e : p = i
  · subst e; exact ⟨t, ht, hl⟩
  · exact h.loc p (by omega) hpn
theorem rinv_run {l : List Clk} {ms : List Lmt} {b : List Brn} (hb : 0 < b.length) : ∀ i S, i ≤ b.length → runRf l ms b i = some S → RInv l ms b i 0 S := by
  intro i
  induction i with
  | zero =>
    intro S _ h
    injection h with h
    subst h
    refine ⟨by simp; omega, rfl, fun k h0 h1 h2 => ?_, fun p q h => by rcases h with h | h <;> omega, fun p q p' q' h => by rcases h with h | h <;> omega, fun p hp => by omega⟩
    obtain ⟨k', rfl⟩ : ∃ k', k = k' + 1 := ⟨k - 1, by omega⟩
    rw [List.getD_eq_getElem?_getD, List.getElem?_cons_succ, List.getElem?_replicate] at h2
    split at h2 <;> cases h2
  | succ i ih =>
    intro S' hi h
    simp only [runRf] at h
    cases hS : runRf l ms b i with
    | none => rw [hS] at h; cases h
    | some S =>
      rw [hS] at h
      have H := ih S (by omega) hS
      simp only [Option.bind_some, stepRf] at h
      cases ht : S.getD i none with
      | none => rw [ht] at h; cases h
      | some t =>
        rw [ht] at h
        simp only at h
        by_cases hl : 0 ≤ (brnAt b i).limit
        · rw [if_pos hl] at h
          by_cases hlf : LeafOk l ms t (brnAt b i)
          · rw [if_pos hlf] at h
            injection h with h
            subst h
            have z := loc_leaf hl hlf
            exact RInv.done (by rw [z]; exact H) ht (.inl ⟨hl, hlf⟩)
          · rw [if_neg hlf] at h; cases h
        · rw [if_neg hl] at h
          by_cases hnd : NodeOk l t (brnAt b i)
          · rw [if_pos hnd] at h
            have key : ∀ j T, j ≤ nxL b i → kidsR b.length i (brnAt b i).clock t (brnAt b i).next S j = some T → RInv l ms b i j T ∧ T.getD i none = some t := by
              intro j
              induction j with
              | zero =>
                intro T _ e
                injection e with e
                subst e
                exact ⟨H, ht⟩
              | succ j ihj =>
                intro T2 hj e
                simp only [kidsR] at e
                cases e1 : kidsR b.length i (brnAt b i).clock t (brnAt b i).next S j with
                | none => rw [e1] at e; cases e
                | some T =>
                  rw [e1] at e
                  simp only [Option.bind_some] at e
                  obtain ⟨HT, hti⟩ := ihj T (by omega) e1
                  split at e
                  · cases e
                  · rename_i hno
                    injection e with e
                    obtain ⟨k, ek⟩ : ∃ k : Nat, (brnAt b i).next.getD j 0 = k := ⟨((brnAt b i).next.getD j 0).toNat, by omega⟩
                    rw [ek] at e hno
                    rw [Int.toNat_natCast] at e hno
                    have hv : nxV2 b i j = (k : Int) := ek
                    have hk1 : k < T.length := by rw [HT.len]; omega
                    have hfree : T.getD k none = none := by
                      cases q : T.getD k none with
                      | none => rfl
                      | some x => exact absurd (.inr (.inr (by rw [q]; rfl))) hno
                    have hg := fun k' => getD_set_sets T k k' (some (t.set (brnAt b i).clock.toNat (j : Int))) hk1
                    rw [e] at hg
                    have old : ∀ k' x, T.getD k' none = some x → T2.getD k' none = some x := fun k' x hx => by
                      rw [hg, if_neg (fun q => by rw [q, hfree] at hx; cases hx)]; exact hx
                    have cas : ∀ p q, Bf i (j + 1) p q → (p = i ∧ q = j) ∨ Bf i j p q := fun p q h => by
                      rcases h with h | ⟨h, h'⟩
                      · exact .inr (.inl h)
                      · by_cases eq : q = j
                        · exact .inl ⟨h, eq⟩
                        · exact .inr (.inr ⟨h, by omega⟩)
                    refine ⟨⟨by rw [← e, List.length_set, HT.len], old 0 _ HT.s0, fun k' h0 h1 h2 => ?_, fun p q h1 h2 h3 => ?_, fun p q p' q' h1 h2 h3 h4 h5 h6 h7 => ?_, fun p h1 h2 => ?_⟩, old i _ hti⟩
                    · rw [hg] at h2
                      by_cases q : k' = k
                      · subst q; exact ⟨i, j, .inr ⟨rfl, by omega⟩, by omega, by omega, hv⟩
                      · rw [if_neg q] at h2
                        obtain ⟨p, q', a1, a2, a3, a4⟩ := HT.frm k' h0 h1 h2
                        exact ⟨p, q', by rcases a1 with a1 | a1; exact .inl a1; exact .inr ⟨a1.1, by omega⟩, a2, a3, a4⟩
                    · rcases cas p q h1 with ⟨rfl, rfl⟩ | h1
                      · exact ⟨k, t, hv, by omega, by omega, old _ _ hti, by rw [hg, if_pos rfl]⟩
                      · obtain ⟨k', t', a1, a2, a3, a4, a5⟩ := HT.kid p q h1 h2 h3
                        exact ⟨k', t', a1, a2, a3, old _ _ a4, old _ _ a5⟩
                    · have no : ∀ p q, Bf i j p q → p < b.length → q < nxL b p → nxV2 b p q ≠ nxV2 b i j := fun p q h1 h2 h3 he => by
                        obtain ⟨k', t', a1, _, _, _, a5⟩ := HT.kid p q h1 h2 h3
                        have : k' = k := by rw [a1, hv] at he; omega
                        rw [this, hfree] at a5; cases a5
                      rcases cas p q h1 with ⟨rfl, rfl⟩ | h1 <;> rcases cas p' q' h2 with ⟨rfl, rfl⟩ | h2
                      · exact ⟨rfl, rfl⟩
                      · exact absurd h7.symm (no p' q' h2 h4 h6)
                      · exact absurd h7 (no p q h1 h3 h5)
                      · exact HT.inj p q p' q' h1 h2 h3 h4 h5 h6 h7
                    · obtain ⟨t', a1, a2⟩ := HT.loc p h1 h2
                      exact ⟨t', old _ _ a1, a2⟩
            obtain ⟨HT, hti⟩ := key _ S' (Nat.le_refl _) h
            exact HT.done hti (.inr ⟨hl, hnd⟩)
          · rw [if_neg hnd] at h; cases h
theorem good_of_ref {l : List Clk} {ms : List Lmt} {b : List Brn} (hb : 0 < b.length) (h : refChk l ms b = true) : ∃ σ, Good l ms b σ := by
  unfold refChk at h
  obtain ⟨S, hS⟩ := Option.isSome_iff_exists.1 h
  have H := rinv_run hb _ S (Nat.le_refl _) hS
  refine ⟨fun k => (S.getD k none).getD [], by rw [H.s0]; rfl, fun i hi => ?_, fun i hi q hq => ?_, fun i hi q hq i' hi' q' hq' he => H.inj i q i' q' (.inl hi) (.inl hi') hi hi' hq hq' he, fun k h0 h1 => ?_⟩
  · obtain ⟨t, a1, a2⟩ := H.loc i hi hi
    rw [a1]; exact a2
  · obtain ⟨k, t, a1, a2, a3, a4, a5⟩ := H.kid i q (.inl hi) hi hq
    exact ⟨k, a1, a2, a3, by rw [a4, a5]; rfl⟩
  · obtain ⟨t, a1, _⟩ := H.loc k h1 h1
    obtain ⟨p, q, _, a2, a3, a4⟩ := H.frm k h0 h1 (by rw [a1]; rfl)
    exact ⟨p, a2, q, a3, a4⟩
/-! From a good setting to the program's check -/
inductive Desc (b : List Brn) (i : Nat) : Nat → Prop
  | kid (q k : Nat) : i < b.length → q < nxL b i → nxV2 b i q = (k : Int) → Desc b i k
  | far (j q k : Nat) : Desc b i j → j < b.length → q < nxL b j → nxV2 b j q = (k : Int) → Desc b i k
theorem Desc.lt {l : List Clk} {ms : List Lmt} {b : List Brn} {σ : Nat → List Int} (G : Good l ms b σ) {i k : Nat} (h : Desc b i k) : i < k ∧ k < b.length := by
  induction h with
  | kid q k h1 h2 h3 =>
    obtain ⟨k', e, a, b', _⟩ := G.kid i h1 q h2
    have : k' = k := by rw [e] at h3; omega
    omega
  | far j q k hd h1 h2 h3 ih =>
    obtain ⟨k', e, a, b', _⟩ := G.kid j h1 q h2
    have : k' = k := by rw [e] at h3; omega
    omega
theorem Desc.trans {b : List Brn} {i j k : Nat} (h : Desc b i j) (g : Desc b j k) : Desc b i k := by
  induction g with
  | kid q k h1 h2 h3 => exact .far j q k h h1 h2 h3
  | far m q k hd h1 h2 h3 ih => exact .far m q k ih h1 h2 h3
theorem desc_two {l : List Clk} {ms : List Lmt} {b : List Brn} {σ : Nat → List Int} (G : Good l ms b σ) {i i' k : Nat} (h : Desc b i k) : Desc b i' k → i = i' ∨ Desc b i i' ∨ Desc b i' i := by
  induction h with
  | kid q k h1 h2 h3 =>
    intro g
    cases g with
    | kid q' _ g1 g2 g3 => exact .inl (G.inj i h1 q h2 i' g1 q' g2 (by rw [h3, g3])).1
    | far j q' _ gd g1 g2 g3 =>
      have := (G.inj i h1 q h2 j g1 q' g2 (by rw [h3, g3])).1
      subst this
      exact .inr (.inr gd)
  | far j q k hd h1 h2 h3 ih =>
    intro g
    cases g with
    | kid q' _ g1 g2 g3 =>
      have := (G.inj j h1 q h2 i' g1 q' g2 (by rw [h3, g3])).1
      subst this
      exact .inr (.inl hd)
    | far j' q' _ gd g1 g2 g3 =>
      have := (G.inj j h1 q h2 j' g1 q' g2 (by rw [h3, g3])).1
      subst this
      exact ih gd
theorem desc_split {b : List Brn} {i k : Nat} (h : Desc b i k) : ∃ q c : Nat, i < b.length ∧ q < nxL b i ∧ nxV2 b i q = (c : Int) ∧ (k = c ∨ Desc b c k) := by
  induction h with
  | kid q k h1 h2 h3 => exact ⟨q, k, h1, h2, h3, .inl rfl⟩
  | far j q k hd h1 h2 h3 ih =>
    obtain ⟨q', c, a1, a2, a3, a4⟩ := ih
    refine ⟨q', c, a1, a2, a3, .inr ?_⟩
    rcases a4 with rfl | a4
    · exact .kid q k h1 h2 h3
    · exact .far j q k a4 h1 h2 h3
theorem vis_of_good {l : List Clk} {ms : List Lmt} {b : List Brn} {σ : Nat → List Int} (G : Good l ms b σ) : ∀ g i N, i < b.length → b.length ≤ i + g → N.length = b.length → (∀ k, Desc b i k → N.getD k false = false) →
    ∃ N', visP l ms b g i (σ i) N = some N' ∧ N'.length = b.length ∧ ∀ k, N'.getD k false = true ↔ (N.getD k false = true ∨ Desc b i k) := by
  intro g
  induction g with
  | zero => intro i N h1 h2; omega
  | succ g ih =>
    intro i N hi hg hN hfree
    have eb : b[i]? = some (brnAt b i) := by rw [brnAt, List.getD_eq_getElem?_getD, List.getElem?_eq_getElem hi]; rfl
    simp only [visP, eb]
    rcases G.loc i hi with ⟨h0, hl⟩ | ⟨h0, hn⟩
    · have z := loc_leaf h0 hl
      rw [if_pos h0, if_pos hl]
      refine ⟨N, rfl, hN, fun k => ⟨.inl, fun h => h.resolve_right (fun d => ?_)⟩⟩
      obtain ⟨q, c, _, a2, _⟩ := desc_split d
      omega
    · rw [if_neg h0, if_pos hn]
      have key : ∀ m, m ≤ nxL b i → ∃ N1, kidsP (visP l ms b g) b.length i (brnAt b i).clock.toNat (σ i) (brnAt b i).next N m = some N1 ∧ N1.length = b.length ∧
          ∀ k, N1.getD k false = true ↔ (N.getD k false = true ∨ ∃ q c : Nat, q < m ∧ nxV2 b i q = (c : Int) ∧ (k = c ∨ Desc b c k)) := by
        intro m
        induction m with
        | zero => intro _; exact ⟨N, rfl, hN, fun k => ⟨.inl, fun h => h.resolve_right (fun ⟨q, c, h, _⟩ => by omega)⟩⟩
        | succ m ihm =>
          intro hm
          obtain ⟨N1, e1, l1, h1⟩ := ihm (by omega)
          obtain ⟨c, c1, c2, c3, c4⟩ := G.kid i hi m (by omega)
          have ev : (brnAt b i).next.getD m 0 = (c : Int) := c1
          have dc : Desc b i c := .kid m c hi (by omega) c1
          have hc1 : c < N1.length := by rw [l1]; exact c3
          have sib : ∀ q c', q < m → nxV2 b i q = (c' : Nat) → c ≠ c' ∧ ¬ Desc b c' c ∧ ¬ Desc b c c' := fun q c' hq hv => by
            have hne : c ≠ c' := fun e => by
              have := (G.inj i hi m (by omega) i hi q (by omega) (by rw [c1, hv, e])).2
              omega
            obtain ⟨k2, f1, f2, f3, _⟩ := G.kid i hi q (by omega)
            have ek : k2 = c' := by rw [f1] at hv; omega
            subst ek
            refine ⟨hne, fun d => ?_, fun d => ?_⟩
            · cases d with
              | kid q' _ g1 g2 g3 =>
                have := (G.inj i hi m (by omega) _ g1 q' g2 (by rw [c1, g3])).1
                omega
              | far j q' _ gd g1 g2 g3 =>
                have := (G.inj i hi m (by omega) j g1 q' g2 (by rw [c1, g3])).1
                have := gd.lt G
                omega
            · cases d with
              | kid q' _ g1 g2 g3 =>
                have := (G.inj i hi q (by omega) _ g1 q' g2 (by rw [f1, g3])).1
                omega
              | far j q' _ gd g1 g2 g3 =>
                have := (G.inj i hi q (by omega) j g1 q' g2 (by rw [f1, g3])).1
                have := gd.lt G
                omega
          have hcf : N1.getD c false = false := by
            cases e : N1.getD c false with
            | false => rfl
            | true =>
              rcases (h1 c).1 e with q | ⟨q, c', hq, hv, hk⟩
              · rw [hfree c dc] at q; cases q
              · obtain ⟨s1, s2, _⟩ := sib q c' hq hv
                rcases hk with hk | hk
                · exact absurd hk s1
                · exact absurd hk s2
          obtain ⟨N2, e2, l2, h2⟩ := ih c (N1.set c true) c3 (by omega) (by rw [List.length_set, l1]) (fun k hk => by
            rw [getD_false_set hc1, if_neg (by have := hk.lt G; omega)]
            cases e : N1.getD k false with
            | false => rfl
            | true =>
              rcases (h1 k).1 e with q | ⟨q, c', hq, hv, hk'⟩
              · rw [hfree k (dc.trans hk)] at q; cases q
              · obtain ⟨s1, s2, s3⟩ := sib q c' hq hv
                rcases hk' with rfl | hk'
                · exact absurd hk s3
                · rcases desc_two G hk hk' with a | a | a
                  · exact absurd a s1
                  · exact absurd a s3
                  · exact absurd a s2)
          refine ⟨N2, ?_, l2, fun k => ?_⟩
          · simp only [kidsP]
            rw [e1]
            simp only [Option.bind_some]
            rw [ev, if_neg (by
              rintro (q | q | q)
              · omega
              · omega
              · rw [Int.toNat_natCast, hcf] at q; cases q), Int.toNat_natCast, ← c4]
            exact e2
          · rw [h2, getD_false_set hc1]
            constructor
            · rintro (h | h)
              · by_cases e : k = c
                · exact .inr ⟨m, c, by omega, c1, .inl e⟩
                · rw [if_neg e] at h
                  rcases (h1 k).1 h with q | ⟨q, c', hq, hv, hk⟩
                  · exact .inl q
                  · exact .inr ⟨q, c', by omega, hv, hk⟩
              · exact .inr ⟨m, c, by omega, c1, .inr h⟩
            · rintro (h | ⟨q, c', hq, hv, hk⟩)
              · left
                split
                · rfl
                · exact (h1 k).2 (.inl h)
              · by_cases e : q = m
                · subst e
                  have : c' = c := by rw [c1] at hv; omega
                  subst this
                  rcases hk with rfl | hk
                  · left; rw [if_pos rfl]
                  · exact .inr hk
                · left
                  split
                  · rfl
                  · exact (h1 k).2 (.inr ⟨q, c', by omega, hv, hk⟩)
      obtain ⟨N1, e1, l1, h1⟩ := key _ (Nat.le_refl _)
      refine ⟨N1, e1, l1, fun k => ?_⟩
      rw [h1]
      constructor
      · rintro (h | ⟨q, c, hq, hv, hk⟩)
        · exact .inl h
        · have d : Desc b i c := .kid q c hi hq hv
          rcases hk with rfl | hk
          · exact .inr d
          · exact .inr (d.trans hk)
      · rintro (h | h)
        · exact .inl h
        · obtain ⟨q, c, _, a2, a3, a4⟩ := desc_split h
          exact .inr ⟨q, c, a2, a3, a4⟩
theorem desc_all {l : List Clk} {ms : List Lmt} {b : List Brn} {σ : Nat → List Int} (G : Good l ms b σ) : ∀ k, 0 < k → k < b.length → Desc b 0 k := by
  intro k
  induction k using Nat.strongRecOn with
  | ind k ih =>
    intro h0 h1
    obtain ⟨p, hp, q, hq, hv⟩ := G.all k h0 h1
    obtain ⟨k', e, e2, _⟩ := G.kid p hp q hq
    have : k' = k := by rw [e] at hv; omega
    by_cases ep : p = 0
    · subst ep; exact .kid q k hp hq hv
    · exact .far p q k (ih p (by omega) (by omega) hp) hp hq hv
theorem chk_same {l : List Clk} {ms : List Lmt} {b : List Brn} (hb : 0 < b.length) : prgChk l ms b = refChk l ms b := by
  rw [Bool.eq_iff_iff]
  constructor
  · intro h
    obtain ⟨σ, G⟩ := good_of_prg hb h
    obtain ⟨S, hS, _⟩ := ref_of_good hb G b.length (Nat.le_refl _)
    unfold refChk; rw [hS]; rfl
  · intro h
    obtain ⟨σ, G⟩ := good_of_ref hb h
    obtain ⟨N', e1, e2, e3⟩ := vis_of_good G b.length 0 (List.replicate b.length false) hb (by omega) (by simp) (fun k _ => by
      rw [List.getD_eq_getElem?_getD, List.getElem?_replicate]; split <;> rfl)
    unfold prgChk
    rw [← G.root, e1]
    exact all_true_of e2 fun k h0 h1 => (e3 k).2 (.inr (desc_all G k h0 h1))
/-! What is accepted says that nothing meets the limits -/
end Go.Proofs.YtenehghpmnajpaaGreatDoor

set_option linter.unusedVariables false
set_option linter.unusedSimpArgs false
namespace Go.Proofs.YtenehghpmnajpaaGreatDoor
open Go.RowKit
open Classical
theorem wGr_gb {w w' : World} (h : Gr w w') (row : Option Nat) : w.grownBy w' row := ⟨h.below.os, h.below.tape, h.below.output, h.size, fun k hk _ => h.below.block k hk⟩
set_option maxHeartbeats 400000 in
theorem indexB_any (xs : List Bool) (a : Option Addr) (cap : Nat) (x : Bool) (w : World) (hx : SlOf 1 RB w a xs) (fx : Fit xs.length) :
    Calls Tryz.prog 116 #[.slice a xs.length cap, .bool x] w fun e w' => ∃ y : Int, e = .returned (.int .i64 y) ∧ (0 ≤ y ↔ x ∈ xs) ∧ w = w' := by
  unfold Fit at fx
  have HX := Lib.hid hx
  clear hx
  go_enter Tryz.func116, Tryz.ntmps116
  go_wp2
  go_loop [8] (fun i => ∃ k : Nat, k ≤ xs.length ∧ i = .int .i64 k ∧ (∀ j (h : j < xs.length), j < k → xs[j] ≠ x)) (fun i => xs.length - (intOf i).toNat)
  case atStart => exact ⟨0, Nat.zero_le _, rfl, fun j _ h => absurd h (by omega)⟩
  case round =>
    obtain ⟨k, hk, rfl, hall⟩ := hrel
    have HA := Lib.hid hall
    clear hall
    by_cases hlt : k < xs.length
    · obtain ⟨bx, ox, rfl, c1⟩ := HX.out.one k hlt
      by_cases he : xs[k] = x
      · have heb : (x == xs[k]) = true := by simp [he]
        have HE := Lib.hid he
        clear he
        unfold RB at c1
        go_wp2
        go_ret
        exact ⟨k, rfl, ⟨fun _ => by rw [← HE.out]; exact List.getElem_mem hlt, fun _ => by omega⟩, rfl⟩
      · have heb : (x == xs[k]) = false := by simp; exact fun q => he q.symm
        have HE := Lib.hid he
        clear he
        unfold RB at c1
        go_wp2
        go_round
        case rel =>
          refine ⟨k + 1, by omega, by go_num, fun j h1 hj => ?_⟩
          by_cases e : j = k
          · subst e; exact HE.out
          · exact HA.out j h1 (by omega)
        case measure => simp [intOf]; omega
    · go_wp2
      go_ret
      refine ⟨-1, rfl, ⟨fun h => by omega, fun hm => ?_⟩, rfl⟩
      obtain ⟨j, hj, e⟩ := List.getElem_of_mem hm
      exact absurd e (HA.out j hj (by omega))
theorem containsB_any (xs : List Bool) (a : Option Addr) (cap : Nat) (x : Bool) (w : World) (hx : SlOf 1 RB w a xs) (fx : Fit xs.length) :
    Calls Tryz.prog 75 #[.slice a xs.length cap, .bool x] w fun e w' => e = .returned (.bool (decide (x ∈ xs))) ∧ w = w' := by
  have HX := Lib.hid hx
  have FX := Lib.hid fx
  clear hx fx
  go_enter Tryz.func75, Tryz.ntmps75
  go_wp2_with fail
  refine (indexB_any xs a cap x w HX.out FX.out).mono ?_
  rintro e w' ⟨y, rfl, hy, rfl⟩
  have HY := Lib.hid hy
  clear hy
  go_wp2_with fail
  go_ret
  exact ⟨ret_bool (by rw [decide_eq_decide]; exact HY.out), rfl⟩
set_option maxHeartbeats 400000 in
theorem idEq_any (x : Bnd) (lim : Int) (X : Nat) (w : World) (c : w.cell? ⟨X, 0, none⟩ = some (.int .i64 lim)) :
    Calls Tryz.prog 72 #[.agg #[.int .i64 x.index, .int .i64 x.clock, .int .i64 x.low, .int .i64 x.high, .bool x.idle], .pointer (some ⟨X, 0, none⟩)] w (Grows w (.bool (x.index == lim))) := by
  have hh := has_of_cell c
  go_enter Tryz.func72, Tryz.ntmps72
  go_wp2_with fail
  go_ret
  exact ⟨rfl, (Gr.refl _).alloc _⟩
/-- The place of a limit with a number. -/
def IdxOf (bs : List Bnd) (lim : Int) (y : Int) : Prop := (y = -1 ∧ ∀ b ∈ bs, b.index ≠ lim) ∨ ∃ k : Nat, y = k ∧ ∃ h : k < bs.length, bs[k].index = lim
set_option maxHeartbeats 1000000 in
theorem indexBnd_any (bs : List Bnd) (ab : Option Addr) (cb : Nat) (lim : Int) (X : Nat) (w : World) (hb : SlOf 5 RBnd w ab bs) (hl : bs.length ≤ 48) (c : w.cell? ⟨X, 0, none⟩ = some (.int .i64 lim)) :
    Calls Tryz.prog 71 #[.slice ab bs.length cb, .func (.func 72) #[] #[.pointer (some ⟨X, 0, none⟩)]] w fun e w' => ∃ y : Int, e = .returned (.int .i64 y) ∧ IdxOf bs lim y ∧ Gr w w' := by
  have HB := Lib.hid hb
  have HC := Lib.hid c
  clear hb c
  go_enter Tryz.func71, Tryz.ntmps71
  go_wp2
  go_loopw [8] (fun i wr => ∃ k : Nat, k ≤ bs.length ∧ i = .int .i64 k ∧ (∀ j (h : j < bs.length), j < k → bs[j].index ≠ lim) ∧ Gr w wr) (fun i _ => bs.length - (intOf i).toNat)
  case atStart => exact ⟨0, Nat.zero_le _, rfl, fun j _ h => absurd h (by omega), Gr.refl _⟩
  case round =>
    obtain ⟨k, hk, rfl, hall, hg⟩ := hrel
    have HA := Lib.hid hall
    have HG := Lib.hid hg
    clear hall hg
    obtain ⟨wo, rfl⟩ : ∃ wo : World, wo = wr := ⟨_, rfl⟩
    by_cases hlt : k < bs.length
    · obtain ⟨b, o, rfl, d0, d1, d2, d3, d4⟩ := (HB.out.gr RBnd.mono HG.out) k hlt
      have hcall := Lib.hid (idEq_any bs[k] lim X wo (cell_gr HG.out HC.out))
      have hh := has_of_cell d0
      have k2 : (k : Int) < bs.length := by omega
      by_cases hq : bs[k].index = lim
      · have hcall' := Lib.hid hcall.out
        rw [show (bs[k].index == lim) = true by simp [hq]] at hcall'
        have Q := Lib.hid hq
        clear hq hcall
        go_wp2_with fail
        refine hcall'.out.mono ?_
        rintro e w' ⟨rfl, hg'⟩
        have G' := Lib.hid (HG.out.trans hg')
        clear hg'
        go_wp2_with fail
        go_ret
        exact ⟨k, rfl, .inr ⟨k, rfl, hlt, Q.out⟩, G'.out⟩
      · have hcall' := Lib.hid hcall.out
        rw [show (bs[k].index == lim) = false by simp [hq]] at hcall'
        have Q := Lib.hid hq
        clear hq hcall
        go_wp2_with fail
        refine hcall'.out.mono ?_
        rintro e w' ⟨rfl, hg'⟩
        have G' := Lib.hid (HG.out.trans hg')
        clear hg'
        go_wp2_with fail
        go_roundw
        case rel =>
          refine ⟨k + 1, by omega, by go_num, fun j h1 hj => ?_, G'.out⟩
          by_cases e : j = k
          · subst e; exact Q.out
          · exact HA.out j h1 (by omega)
        case measure => simp [intOf]; omega
    · go_wp2_with fail
      go_ret
      refine ⟨-1, rfl, .inl ⟨rfl, fun b hb => ?_⟩, HG.out⟩
      obtain ⟨j, hj, rfl⟩ := List.getElem_of_mem hb
      exact HA.out j hj (by omega)
/-! Numbers of limits are unique -/
theorem allB_unique {l : List Clk} {ms : List Lmt} {b b' : Bnd} (h : b ∈ allB l ms) (h' : b' ∈ allB l ms) (e : b.index = b'.index) : b = b' := by
  rcases List.mem_append.1 h with h | h <;> rcases List.mem_append.1 h' with h' | h'
  · obtain ⟨j, hj, rfl⟩ := mem_limsB.1 h
    obtain ⟨i, hi, rfl⟩ := mem_limsB.1 h'
    have : j = i := by simp only [limB] at e; omega
    subst this; rfl
  · obtain ⟨j, hj, rfl⟩ := mem_limsB.1 h
    obtain ⟨i, hi, _, rfl⟩ := mem_ownB.1 h'
    simp only [limB] at e; omega
  · obtain ⟨j, hj, _, rfl⟩ := mem_ownB.1 h
    obtain ⟨i, hi, rfl⟩ := mem_limsB.1 h'
    simp only [limB] at e; omega
  · obtain ⟨j, hj, _, rfl⟩ := mem_ownB.1 h
    obtain ⟨i, hi, _, rfl⟩ := mem_ownB.1 h'
    have : j = i := by simp only at e; omega
    subst this; rfl
theorem leaf_none {l : List Clk} {ms : List Lmt} {p : List Int} {lim : Int} (h : ∀ b ∈ allB l ms, b.index ≠ lim) : leafS l ms p lim = false := by
  unfold leafS
  rw [decide_eq_false_iff_not]
  rintro ⟨b, hb, hi, _⟩
  exact h b hb hi
def leafB (d : Dec) (b : Bnd) : Bool := match d with | .opn _ => false | .isr r => brokB b r
theorem leaf_some {l : List Clk} {ms : List Lmt} {p : List Int} {lim : Int} {k : Nat} (hk : k < (allB l ms).length) (h : (allB l ms)[k].index = lim) : leafS l ms p lim = leafB (dec l p (allB l ms)[k].clock.toNat) (allB l ms)[k] := by
  have hm := List.getElem_mem hk
  unfold leafS
  cases hd : dec l p (allB l ms)[k].clock.toNat with
  | opn f =>
    simp only [leafB]
    rw [decide_eq_false_iff_not]
    rintro ⟨b, hb, hi, r, hr, _⟩
    rw [allB_unique hb hm (by rw [hi, h]), hd] at hr
    cases hr
  | isr r =>
    simp only [leafB]
    cases hb : brokB (allB l ms)[k] r with
    | true => exact decide_eq_true ⟨_, hm, h, r, hd, hb⟩
    | false =>
      rw [decide_eq_false_iff_not]
      rintro ⟨b, hb', hi, r', hr, hb2⟩
      rw [allB_unique hb' hm (by rw [hi, h])] at hr hb2
      rw [hd] at hr
      injection hr with hr
      rw [← hr, hb] at hb2; cases hb2
end Go.Proofs.YtenehghpmnajpaaGreatDoor
