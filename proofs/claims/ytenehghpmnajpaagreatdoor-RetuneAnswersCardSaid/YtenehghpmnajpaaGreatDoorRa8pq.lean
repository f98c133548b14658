/- Lemmas and contracts for the proof of RetuneAnswers (several texts in one, printed by wip/tools/pack.py): GaA SeG BgG SbA DsP ClP ClQ. -/
import Derived.Test.YtenehghpmnajpaaGreatDoorRa8pp
import Derived.Test.YtenehghpmnajpaaGreatDoorRa8pl
import Derived.Test.YtenehghpmnajpaaGreatDoorRa8po
import Derived.Test.YtenehghpmnajpaaGreatDoorRa8pm
set_option maxRecDepth 100000
set_option maxHeartbeats 16000000
set_option linter.unusedVariables false
set_option linter.unusedSimpArgs false
namespace Go.Proofs.YtenehghpmnajpaaGreatDoor
open Go.RowKit
open Classical
theorem refLimitsG_any (l : List Clk) (m : List Lmt) (al am : Option Addr) (cl cm : Nat) (w : World) (h : SlOf 5 RClk w al l) (hm : SlOf 3 RLmt w am m) (fl : Fit l.length) (fm : Fit m.length) :
    Calls Tryz.prog 100 #[.slice al l.length cl, .slice am m.length cm] w (Grows w (.bool (decide (LmtsOk l m)))) := by
  have RC := Lib.hid (refCheck_any l al cl w h fl)
  have HM := Lib.hid hm
  obtain ⟨P, hP⟩ : ∃ P : Prop, P = LmtsOk l m := ⟨_, rfl⟩
  rw [← hP]
  have HP := Lib.hid hP
  unfold Fit at fl fm
  clear h hm hP
  by_cases hc : cchk l = 0
  · rw [hc] at RC
    have HC := Lib.hid hc
    clear hc
    by_cases hml : m.length ≤ 32
    · have hmb : decide ((32 : Int) < m.length) = false := decide_eq_false (by omega)
      have hmb2 : decide (32 < m.length) = false := decide_eq_false (by omega)
      go_enter Tryz.func100, Tryz.ntmps100
      go_wp2_with fail
      refine RC.out.mono ?_
      rintro e w1 ⟨rfl, hg1⟩
      have G1 := Lib.hid hg1
      clear hg1 RC
      go_wp2_with fail
      go_loopw [17] (fun i wr => ∃ k : Nat, k ≤ m.length ∧ i = .int .i64 k ∧ Gr w wr ∧ Hid (∀ j (hj : j < m.length), j < k → LmtOk l m[j])) (fun i _ => m.length - (intOf i).toNat)
      case atStart => exact ⟨0, Nat.zero_le _, rfl, G1.out, Lib.hid (fun j _ h => by omega)⟩
      case round =>
        obtain ⟨k, hk, rfl, hg, hdone⟩ := hrel
        have HG := Lib.hid hg
        clear hg
        obtain ⟨wo, rfl⟩ : ∃ wo : World, wo = wr := ⟨_, rfl⟩
        by_cases hlt : k < m.length
        · obtain ⟨b, o, rfl, ⟨c0, _⟩, ⟨c1, _⟩, ⟨c2, _⟩⟩ := lmts_gr HM.out HG.out k hlt
          have hn : Hid (¬ LmtOk l m[k] → ¬ P) := Lib.hid (fun hb hp => hb ((HP.out ▸ hp : LmtsOk l m).2.2 k hlt))
          by_cases q0 : m[k].clock < 0
          · have e1 : decide (m[k].clock < 0) = true := decide_eq_true q0
            have H1 : Hid (¬ P) := Lib.hid (hn.out (fun h => by have := h.1; omega))
            clear q0
            go_wp2_with fail
            go_ret
            exact ⟨by rw [decide_eq_false H1.out]; rfl, HG.out.alloc _⟩
          · have e1 : decide (m[k].clock < 0) = false := decide_eq_false q0
            by_cases q1 : (l.length : Int) ≤ m[k].clock
            · have e2 : decide ((l.length : Int) ≤ m[k].clock) = true := decide_eq_true q1
              have H1 : Hid (¬ P) := Lib.hid (hn.out (fun h => by have := h.2.1; omega))
              clear q0 q1
              go_wp2_with fail
              go_ret
              exact ⟨by rw [decide_eq_false H1.out]; rfl, HG.out.alloc _⟩
            · have e2 : decide ((l.length : Int) ≤ m[k].clock) = false := decide_eq_false q1
              by_cases q2 : m[k].low < 0
              · have e3 : decide (m[k].low < 0) = true := decide_eq_true q2
                have H1 : Hid (¬ P) := Lib.hid (hn.out (fun h => by have := h.2.2.1; omega))
                clear q0 q1 q2
                go_wp2_with fail
                go_ret
                exact ⟨by rw [decide_eq_false H1.out]; rfl, HG.out.alloc _⟩
              · have e3 : decide (m[k].low < 0) = false := decide_eq_false q2
                by_cases q3 : m[k].high < m[k].low
                · have e4 : decide (m[k].high < m[k].low) = true := decide_eq_true q3
                  have H1 : Hid (¬ P) := Lib.hid (hn.out (fun h => by have := h.2.2.2.1; omega))
                  clear q0 q1 q2 q3
                  go_wp2_with fail
                  go_ret
                  exact ⟨by rw [decide_eq_false H1.out]; rfl, HG.out.alloc _⟩
                · have e4 : decide (m[k].high < m[k].low) = false := decide_eq_false q3
                  by_cases q4 : 4000000000 < m[k].high
                  · have e5 : decide (4000000000 < m[k].high) = true := decide_eq_true q4
                    have H1 : Hid (¬ P) := Lib.hid (hn.out (fun h => by have := h.2.2.2.2; omega))
                    clear q0 q1 q2 q3 q4
                    go_wp2_with fail
                    go_ret
                    exact ⟨by rw [decide_eq_false H1.out]; rfl, HG.out.alloc _⟩
                  · have e5 : decide (4000000000 < m[k].high) = false := decide_eq_false q4
                    have OK : Hid (LmtOk l m[k]) := Lib.hid ⟨by omega, by omega, by omega, by omega, by omega⟩
                    clear q0 q1 q2 q3 q4
                    go_wp2_with fail
                    go_roundw
                    case rel =>
                      refine ⟨k + 1, by omega, by go_num, HG.out.alloc _, Lib.hid (fun j hj h => ?_)⟩
                      by_cases e : j = k
                      · subst e; exact OK.out
                      · exact hdone.out j hj (by omega)
                    case measure => simp [intOf]; omega
        · go_wp2_with fail
          go_ret
          refine ⟨?_, HG.out⟩
          have hp : P := by rw [HP.out]; exact ⟨HC.out, hml, fun j hj => hdone.out j hj (by omega)⟩
          rw [decide_eq_true hp]; rfl
    · have hmb : decide ((32 : Int) < m.length) = true := decide_eq_true (by omega)
      have hmb2 : decide (32 < m.length) = true := decide_eq_true (by omega)
      have H1 : Hid (¬ P) := Lib.hid (fun hp => hml (HP.out ▸ hp : LmtsOk l m).2.1)
      clear hml
      go_enter Tryz.func100, Tryz.ntmps100
      go_wp2_with fail
      refine RC.out.mono ?_
      rintro e w1 ⟨rfl, hg1⟩
      go_wp2_with fail
      go_ret
      exact ⟨by rw [decide_eq_false H1.out]; rfl, hg1⟩
  · have H1 : Hid (¬ P) := Lib.hid (fun hp => hc (HP.out ▸ hp : LmtsOk l m).1)
    have hb : (cchk l != 0) = true := by simp [hc]
    go_enter Tryz.func100, Tryz.ntmps100
    go_wp2_with fail
    refine RC.out.mono ?_
    rintro e w1 ⟨rfl, hg1⟩
    go_wp2_with fail
    go_ret
    exact ⟨by rw [decide_eq_false H1.out]; rfl, hg1⟩
theorem refSettingG_any (l : List Clk) (s : List Int) (al aS : Option Addr) (cl cs : Nat) (w : World) (h : SlOf 5 RClk w al l) (hs : SlOf 1 RI w aS s) (fl : Fit l.length) (fs : Fit s.length) :
    Calls Tryz.prog 99 #[.slice al l.length cl, .slice aS s.length cs] w (Grows w (.bool (decide (cchk l = 0 ∧ SetOk l s)))) := by
  have RC := Lib.hid (refCheck_any l al cl w h fl)
  by_cases hc : cchk l = 0
  · by_cases hle : s.length = l.length
    · obtain ⟨P, hP⟩ : ∃ P : Prop, P = (cchk l = 0 ∧ SetOk l s) := ⟨_, rfl⟩
      rw [show decide (cchk l = 0 ∧ SetOk l s) = decide P from by rw [decide_eq_decide, hP]]
      have HP := Lib.hid hP
      rw [hc] at RC
      have H := Lib.hid h
      have HS := Lib.hid hs
      have NB := Lib.hid (cchk_zero hc).1
      have HL := Lib.hid hle
      have HC := Lib.hid hc
      rw [hle]
      have hl16 := small_len (cchk_zero hc).1
      clear h hs hc hle hP
      go_enter Tryz.func99, Tryz.ntmps99
      go_wp2_with fail
      refine RC.out.mono ?_
      rintro e w1 ⟨rfl, hg1⟩
      have G1 := Lib.hid hg1
      clear hg1 RC
      go_wp2_with fail
      go_loopw [19] (fun i wr => ∃ k : Nat, k ≤ l.length ∧ i = .int .i64 k ∧ Gr w wr ∧ Hid (∀ j (h : j < l.length) (h' : j < s.length), j < k → 0 ≤ s[j] ∧ s[j] < l[j].choices.length)) (fun i _ => l.length - (intOf i).toNat)
      case atStart => exact ⟨0, Nat.zero_le _, rfl, G1.out, Lib.hid (fun j _ _ h => by omega)⟩
      case round =>
        obtain ⟨k, hk, rfl, hg, hdone⟩ := hrel
        have HG := Lib.hid hg
        clear hg
        obtain ⟨wo, rfl⟩ : ∃ wo : World, wo = wr := ⟨_, rfl⟩
        by_cases hlt : k < l.length
        · have hls : k < s.length := by have := HL.out; omega
          have hn : Hid (¬ (0 ≤ s[k] ∧ s[k] < l[k].choices.length) → ¬ P) := Lib.hid (fun hb hp => hb ((HP.out ▸ hp : cchk l = 0 ∧ SetOk l s).2.2 k hlt hls))
          obtain ⟨fp, fc⟩ := small_at NB.out hlt
          obtain ⟨b, o, rfl, ⟨d0, _⟩, ⟨ap, cp, d1, _⟩, ⟨ac, cc, d2, _, d2f, _⟩, ⟨d3, _⟩, ⟨d4, _⟩⟩ := clks_gr H.out HG.out k hlt
          obtain ⟨bs, os, rfl, ⟨q1, _⟩⟩ := (HS.out.giI HG.out).one k hls
          have hx1 := has_of_cell q1
          have k2 : (k : Int) < l.length := by omega
          unfold Fit at d2f
          by_cases t0 : s[k] < 0
          · have e1 : decide (s[k] < 0) = true := decide_eq_true t0
            have H1 : Hid (¬ P) := Lib.hid (hn.out (fun h => by omega))
            clear t0
            go_wp2_with fail
            refine wp_region_grows (by kernel_rfl) (by kernel_rfl) ?_
            repeat (go_big_quiet_step (fail))
            refine wpQuiet_nil ?_
            rintro _ ⟨⟨O, d⟩, rfl⟩
            go_wp2_with fail
            go_ret
            exact ⟨by rw [decide_eq_false H1.out]; rfl, (HG.out.alloc _).xt _ _⟩
          · have e1 : decide (s[k] < 0) = false := decide_eq_false t0
            by_cases t1 : (l[k].choices.length : Int) ≤ s[k]
            · have e2 : decide ((l[k].choices.length : Int) ≤ s[k]) = true := decide_eq_true t1
              have H1 : Hid (¬ P) := Lib.hid (hn.out (fun h => by omega))
              clear t0 t1
              go_wp2_with fail
              refine wp_region_grows (by kernel_rfl) (by kernel_rfl) ?_
              repeat (go_big_quiet_step (fail))
              refine wpQuiet_nil ?_
              rintro _ ⟨⟨O, d⟩, rfl⟩
              go_wp2_with fail
              go_ret
              exact ⟨by rw [decide_eq_false H1.out]; rfl, (HG.out.alloc _).xt _ _⟩
            · have e2 : decide ((l[k].choices.length : Int) ≤ s[k]) = false := decide_eq_false t1
              have ok : Hid (0 ≤ s[k] ∧ s[k] < l[k].choices.length) := Lib.hid (by omega)
              clear t0 t1
              go_wp2_with fail
              refine wp_region_grows (by kernel_rfl) (by kernel_rfl) ?_
              repeat (go_big_quiet_step (fail))
              refine wpQuiet_nil ?_
              rintro _ ⟨⟨O, d⟩, rfl⟩
              go_wp2_with fail
              go_roundw
              case rel =>
                refine ⟨k + 1, by omega, by go_num, (HG.out.alloc _).xt _ _, Lib.hid (fun j h1 h2 h3 => ?_)⟩
                by_cases hj : j = k
                · subst hj; exact ok.out
                · exact hdone.out j h1 h2 (by omega)
              case measure => simp [intOf]; omega
        · have H1 : Hid P := Lib.hid (HP.out.symm ▸ ⟨HC.out, HL.out, fun j h1 h2 => hdone.out j h1 h2 (by omega)⟩)
          go_wp2_with fail
          go_ret
          exact ⟨by rw [decide_eq_true H1.out]; rfl, HG.out⟩
    · have hd : decide (cchk l = 0 ∧ SetOk l s) = false := decide_eq_false (fun h => hle h.2.1)
      rw [hd]
      rw [hc] at RC
      have hb : ((s.length : Int) != (l.length : Int)) = true := by simp; omega
      have hb2 : (s.length != l.length) = true := by simp [hle]
      have hb3 : ((s.length : Int) == (l.length : Int)) = false := by simp; omega
      unfold Fit at fl fs
      clear h hs hc hd
      go_enter Tryz.func99, Tryz.ntmps99
      go_wp2_with fail
      refine RC.out.mono ?_
      rintro e w1 ⟨rfl, hg1⟩
      have G1 := Lib.hid hg1
      clear hg1 RC
      go_wp2_with fail
      go_ret
      exact ⟨rfl, G1.out⟩
  · have hd : decide (cchk l = 0 ∧ SetOk l s) = false := decide_eq_false (fun h => hc h.1)
    rw [hd]
    obtain ⟨B, hB⟩ : ∃ B, cchk l = B := ⟨_, rfl⟩
    rw [hB] at RC hc
    have hb : (B != 0) = true := by simp [hc]
    unfold Fit at fl fs
    clear h hs hd hB
    go_enter Tryz.func99, Tryz.ntmps99
    go_wp2_with fail
    refine RC.out.mono ?_
    rintro e w1 ⟨rfl, hg1⟩
    have G1 := Lib.hid hg1
    clear hg1 RC
    go_wp2_with fail
    go_ret
    exact ⟨rfl, G1.out⟩
structure Env18 (w : World) (l : List Clk) (ms : List Lmt) (f t : List Int) (al am af at' : Option Addr) : Prop where
  clks : SlOf 5 RClk w al l
  fl : Fit l.length
  lmts : SlOf 3 RLmt w am ms
  fm : Fit ms.length
  sf : SlOf 1 RI w af f
  ff : Fit f.length
  st : SlOf 1 RI w at' t
  ft : Fit t.length
  off : OffV w
section
variable {w w' : World} {l : List Clk} {ms : List Lmt} {f t : List Int} {al am af at' : Option Addr}
theorem Env18.gr (h : Env18 w l ms f t al am af at') (hg : Gr w w') : Env18 w' l ms f t al am af at' := ⟨clks_gr h.clks hg, h.fl, lmts_gr h.lmts hg, h.fm, h.sf.giI hg, h.ff, h.st.giI hg, h.ft, h.off.gr hg⟩
noncomputable def calG (l : List Clk) (ms : List Lmt) (s : List Int) : Bool := decide (LmtsOk l ms) && (decide (cchk l = 0 ∧ SetOk l s) && calS l ms s)
noncomputable def e18 (l : List Clk) (ms : List Lmt) (f t : List Int) : Int := if cchk l = 0 then (if LmtsOk l ms ∧ SetOk l f ∧ SetOk l t then (if calS l ms f = true ∧ calS l ms t = true then 0 else 7) else 1) else cchk l
theorem e18_zero (h : e18 l ms f t = 0) : LmtsOk l ms ∧ SetOk l f ∧ SetOk l t ∧ calS l ms f = true ∧ calS l ms t = true := by
  unfold e18 at h
  split at h
  · split at h
    · rename_i q
      split at h
      · rename_i p
        exact ⟨q.1, q.2.1, q.2.2, p.1, p.2⟩
      · cases h
    · cases h
  · contradiction
theorem Env18.env (h : Env18 w l ms f t al am af at') (hl : LmtsOk l ms) : Env w l ms al am := ⟨h.clks, h.lmts, h.off, hl.1, hl.2.1, hl.2.2⟩
end
theorem refCalmG_any (l : List Clk) (ms : List Lmt) (s : List Int) (al aS am : Option Addr) (cl cs cm : Nat) (w : World) (h : SlOf 5 RClk w al l) (hs : SlOf 1 RI w aS s) (hm : SlOf 3 RLmt w am ms) (fl : Fit l.length) (fs : Fit s.length) (fm : Fit ms.length) :
    Calls Tryz.prog 41 #[.slice al l.length cl, .slice aS s.length cs, .slice am ms.length cm] w (Grows w (.bool (calG l ms s))) := by
  have S1 := Lib.hid (fun W (hW : Gr w W) => refSettingG_any l s al aS cl cs W (clks_gr h hW) (hs.giI hW) fl fs)
  have S2 := Lib.hid (fun W (hW : Gr w W) => refLimitsG_any l ms al am cl cm W (clks_gr h hW) (lmts_gr hm hW) fl fm)
  by_cases c1 : cchk l = 0 ∧ SetOk l s
  · by_cases c2 : LmtsOk l ms
    · have := refCalm_any l ms s al aS am cl cs cm w h hs hm c1.1 c1.2 c2.2
      unfold calG
      rw [decide_eq_true c1, decide_eq_true c2, Bool.true_and, Bool.true_and]
      exact this
    · unfold calG
      rw [decide_eq_false c2, Bool.false_and]
      rw [decide_eq_true c1] at S1
      rw [decide_eq_false c2] at S2
      clear h hs hm c1 c2
      go_enter Tryz.func41, Tryz.ntmps41
      go_wp2_with fail
      refine (S1.out _ (Gr.refl _)).mono ?_
      rintro e w1 ⟨rfl, hg1⟩
      have G1 := Lib.hid hg1
      clear hg1
      go_wp2_with fail
      refine (S2.out _ G1.out).mono ?_
      rintro e w2 ⟨rfl, hg2⟩
      have G2 := Lib.hid (G1.out.trans hg2)
      clear hg2
      go_wp2_with fail
      go_ret
      exact ⟨rfl, G2.out⟩
  · unfold calG
    rw [decide_eq_false c1, Bool.false_and, Bool.and_false]
    rw [decide_eq_false c1] at S1
    clear h hs hm c1 S2
    go_enter Tryz.func41, Tryz.ntmps41
    go_wp2_with fail
    refine (S1.out _ (Gr.refl _)).mono ?_
    rintro e w1 ⟨rfl, hg1⟩
    have G1 := Lib.hid hg1
    clear hg1
    go_wp2_with fail
    go_ret
    exact ⟨rfl, G1.out⟩
theorem proCalmG_any (l : List Clk) (ms : List Lmt) (s : List Int) (al aS am : Option Addr) (cl cs cm : Nat) (w : World) (h : SlOf 5 RClk w al l) (hs : SlOf 1 RI w aS s) (hm : SlOf 3 RLmt w am ms) (fl : Fit l.length) (fs : Fit s.length) (fm : Fit ms.length) (hoff : OffV w) :
    Calls Tryz.prog 40 #[.slice al l.length cl, .slice aS s.length cs, .slice am ms.length cm] w (Grows w (.bool (calG l ms s))) := by
  have S1 := Lib.hid (fun W (hW : Gr w W) => pSetting_any l s al aS cl cs W (clks_gr h hW) (hs.giI hW) fl fs)
  have S2 := Lib.hid (fun W (hW : Gr w W) => pLimits_any l ms al am cl cm W (clks_gr h hW) fl (lmts_gr hm hW) fm)
  by_cases c2 : LmtsOk l ms
  · by_cases c1 : cchk l = 0 ∧ SetOk l s
    · have := proCalm_any l ms s al aS am cl cs cm w ⟨h, hm, hoff, c1.1, c2.2.1, c2.2.2⟩ hs c1.2
      unfold calG
      rw [decide_eq_true c1, decide_eq_true c2, Bool.true_and, Bool.true_and]
      exact this
    · unfold calG
      rw [decide_eq_false c1, Bool.false_and, Bool.and_false]
      rw [decide_eq_false c1] at S1
      rw [decide_eq_true c2] at S2
      clear h hs hm c1 c2
      go_enter Tryz.func40, Tryz.ntmps40
      go_wp2_with fail
      refine (S2.out _ (Gr.refl _)).mono ?_
      rintro e w1 ⟨rfl, hg1⟩
      have G1 := Lib.hid hg1
      clear hg1
      go_wp2_with fail
      refine (S1.out _ G1.out).mono ?_
      rintro e w2 ⟨rfl, hg2⟩
      have G2 := Lib.hid (G1.out.trans hg2)
      clear hg2
      go_wp2_with fail
      go_ret
      exact ⟨rfl, G2.out⟩
  · unfold calG
    rw [decide_eq_false c2, Bool.false_and]
    rw [decide_eq_false c2] at S2
    clear h hs hm c2 S1
    go_enter Tryz.func40, Tryz.ntmps40
    go_wp2_with fail
    refine (S2.out _ (Gr.refl _)).mono ?_
    rintro e w1 ⟨rfl, hg1⟩
    have G1 := Lib.hid hg1
    clear hg1
    go_wp2_with fail
    go_ret
    exact ⟨rfl, G1.out⟩
theorem refBegin18_any (l : List Clk) (ms : List Lmt) (f t : List Int) (al am af at' : Option Addr) (cl cm cf ct : Nat) (w : World) (h : Env18 w l ms f t al am af at') :
    Calls Tryz.prog 89 #[.slice al l.length cl, .slice af f.length cf, .slice at' t.length ct, .slice am ms.length cm] w (Grows w (.int .i64 (e18 l ms f t))) := by
  have S0 := Lib.hid (fun W (hW : Gr w W) => refCheck_any l al cl W (h.gr hW).clks h.fl)
  have S1 := Lib.hid (fun W (hW : Gr w W) => refLimitsG_any l ms al am cl cm W (h.gr hW).clks (h.gr hW).lmts h.fl h.fm)
  have S2 := Lib.hid (fun W (hW : Gr w W) => refSettingG_any l f al af cl cf W (h.gr hW).clks (h.gr hW).sf h.fl h.ff)
  have S3 := Lib.hid (fun W (hW : Gr w W) => refSettingG_any l t al at' cl ct W (h.gr hW).clks (h.gr hW).st h.fl h.ft)
  by_cases hc : cchk l = 0
  · rw [hc] at S0
    have go1 : ∀ (x y z : Bool), decide (LmtsOk l ms) = x → decide (cchk l = 0 ∧ SetOk l f) = y → decide (cchk l = 0 ∧ SetOk l t) = z → (x && y && z) = false → e18 l ms f t = 1 := by
      intro x y z hx hy hz hxyz
      unfold e18
      rw [if_pos hc, if_neg]
      rintro ⟨p1, p2, p3⟩
      rw [decide_eq_true p1] at hx
      rw [decide_eq_true ⟨hc, p2⟩] at hy
      rw [decide_eq_true ⟨hc, p3⟩] at hz
      subst hx hy hz
      simp at hxyz
    obtain ⟨x, hx⟩ : ∃ x, decide (LmtsOk l ms) = x := ⟨_, rfl⟩
    obtain ⟨y, hy⟩ : ∃ x, decide (cchk l = 0 ∧ SetOk l f) = x := ⟨_, rfl⟩
    obtain ⟨z, hz⟩ : ∃ x, decide (cchk l = 0 ∧ SetOk l t) = x := ⟨_, rfl⟩
    by_cases hall : (x && y && z) = true
    · obtain ⟨rfl, rfl, rfl⟩ : x = true ∧ y = true ∧ z = true := by simpa [and_assoc] using hall
      have p1 := of_decide_eq_true hx
      have p2 := (of_decide_eq_true hy).2
      have p3 := (of_decide_eq_true hz).2
      have C2 := Lib.hid (fun W (hW : Gr w W) => refCalm1_any l ms f al af am cl cf cm W (h.gr hW).clks (h.gr hW).sf (h.gr hW).lmts hc p2 p1.2)
      have C3 := Lib.hid (fun W (hW : Gr w W) => refCalm1_any l ms t al at' am cl ct cm W (h.gr hW).clks (h.gr hW).st (h.gr hW).lmts hc p3 p1.2)
      have E := Lib.hid (show e18 l ms f t = if calS l ms f = true ∧ calS l ms t = true then 0 else 7 by unfold e18; rw [if_pos hc, if_pos ⟨p1, p2, p3⟩])
      rw [hx] at S1
      rw [hy] at S2
      rw [hz] at S3
      obtain ⟨u, hu⟩ : ∃ x, calS l ms f = x := ⟨_, rfl⟩
      obtain ⟨v, hv⟩ : ∃ x, calS l ms t = x := ⟨_, rfl⟩
      rw [hu] at C2
      rw [hv] at C3
      rw [hu, hv] at E
      obtain ⟨R, hR⟩ : ∃ R, e18 l ms f t = R := ⟨_, rfl⟩
      rw [hR] at E ⊢
      clear hR hu hv p1 p2 p3 hx hy hz hall hc h go1
      go_enter Tryz.func89, Tryz.ntmps89
      go_wp2_with fail
      refine (S0.out _ (Gr.refl _)).mono ?_
      rintro e w1 ⟨rfl, hg1⟩
      have G1 := Lib.hid hg1
      clear hg1
      go_wp2_with fail
      refine (S1.out _ G1.out).mono ?_
      rintro e w2 ⟨rfl, hg2⟩
      have G2 := Lib.hid (G1.out.trans hg2)
      clear hg2
      go_wp2_with fail
      refine (S2.out _ G2.out).mono ?_
      rintro e w3 ⟨rfl, hg3⟩
      have G3 := Lib.hid (G2.out.trans hg3)
      clear hg3
      go_wp2_with fail
      refine (S3.out _ G3.out).mono ?_
      rintro e w4 ⟨rfl, hg4⟩
      have G4 := Lib.hid (G3.out.trans hg4)
      clear hg4
      go_wp2_with fail
      refine (C2.out _ G4.out).mono ?_
      rintro e w5 ⟨rfl, hg5⟩
      have G5 := Lib.hid (G4.out.trans hg5)
      clear hg5
      cases u
      · have e : R = 7 := by rw [E.out]; simp
        have EE := Lib.hid e
        clear e E
        go_wp2_with fail
        go_ret
        exact ⟨by rw [EE.out]; rfl, G5.out⟩
      · go_wp2_with fail
        refine (C3.out _ G5.out).mono ?_
        rintro e w6 ⟨rfl, hg6⟩
        have G6 := Lib.hid (G5.out.trans hg6)
        clear hg6
        cases v
        · have e : R = 7 := by rw [E.out]; simp
          have EE := Lib.hid e
          clear e E
          go_wp2_with fail
          go_ret
          exact ⟨by rw [EE.out]; rfl, G6.out⟩
        · have e : R = 0 := by rw [E.out]; simp
          have EE := Lib.hid e
          clear e E
          go_wp2_with fail
          go_ret
          exact ⟨by rw [EE.out]; rfl, G6.out⟩
    · rw [go1 x y z hx hy hz (by simpa using hall)]
      rw [hx] at S1
      rw [hy] at S2
      rw [hz] at S3
      clear hx hy hz go1 hc h
      go_enter Tryz.func89, Tryz.ntmps89
      go_wp2_with fail
      refine (S0.out _ (Gr.refl _)).mono ?_
      rintro e w1 ⟨rfl, hg1⟩
      have G1 := Lib.hid hg1
      clear hg1
      go_wp2_with fail
      refine (S1.out _ G1.out).mono ?_
      rintro e w2 ⟨rfl, hg2⟩
      have G2 := Lib.hid (G1.out.trans hg2)
      clear hg2
      cases x
      · clear hall
        go_wp2_with fail
        go_ret
        exact ⟨rfl, G2.out⟩
      go_wp2_with fail
      refine (S2.out _ G2.out).mono ?_
      rintro e w3 ⟨rfl, hg3⟩
      have G3 := Lib.hid (G2.out.trans hg3)
      clear hg3
      cases y
      · clear hall
        go_wp2_with fail
        go_ret
        exact ⟨rfl, G3.out⟩
      go_wp2_with fail
      refine (S3.out _ G3.out).mono ?_
      rintro e w4 ⟨rfl, hg4⟩
      have G4 := Lib.hid (G3.out.trans hg4)
      clear hg4
      cases z
      · clear hall
        go_wp2_with fail
        go_ret
        exact ⟨rfl, G4.out⟩
      exact absurd rfl hall
  · have E := Lib.hid (show e18 l ms f t = cchk l by unfold e18; rw [if_neg hc])
    rw [E.out]
    obtain ⟨B, hB⟩ : ∃ B, cchk l = B := ⟨_, rfl⟩
    rw [hB] at S0 hc ⊢
    have hb : (B != 0) = true := by simp [hc]
    clear E hB h S1 S2 S3
    go_enter Tryz.func89, Tryz.ntmps89
    go_wp2_with fail
    refine (S0.out _ (Gr.refl _)).mono ?_
    rintro e w1 ⟨rfl, hg1⟩
    have G1 := Lib.hid hg1
    clear hg1
    go_wp2_with fail
    go_ret
    exact ⟨rfl, G1.out⟩
def Begun18 (l : List Clk) (ms : List Lmt) (f t : List Int) (al am : Option Addr) (cl cm : Nat) (w : World) (e : Ending) (w' : World) : Prop :=
  Gr w w' ∧ (e18 l ms f t = 0 → ∃ BK, e = .returned (.tuple #[spV l ms al am cl cm BK, .int .i64 0]) ∧ w.heap.size ≤ BK ∧ MapB w' BK []) ∧ (e18 l ms f t ≠ 0 → e = .returned (.tuple #[.agg #[.slice none 0 0, .slice none 0 0, .map none], .int .i64 (e18 l ms f t)]))
theorem pBegin18_any (l : List Clk) (ms : List Lmt) (f t : List Int) (al am af at' : Option Addr) (cl cm cf ct : Nat) (w : World) (h : Env18 w l ms f t al am af at') :
    Calls Tryz.prog 79 #[.slice al l.length cl, .slice af f.length cf, .slice at' t.length ct, .slice am ms.length cm] w (Begun18 l ms f t al am cl cm w) := by
  have S0 := Lib.hid (fun W (hW : Gr w W) => pCheck_any l al cl W (h.gr hW).clks h.fl)
  have S1 := Lib.hid (fun W (hW : Gr w W) => pLimits_any l ms al am cl cm W (h.gr hW).clks h.fl (h.gr hW).lmts h.fm)
  have S2 := Lib.hid (fun W (hW : Gr w W) => pSetting_any l f al af cl cf W (h.gr hW).clks (h.gr hW).sf h.fl h.ff)
  have S3 := Lib.hid (fun W (hW : Gr w W) => pSetting_any l t al at' cl ct W (h.gr hW).clks (h.gr hW).st h.fl h.ft)
  by_cases hc : cchk l = 0
  · by_cases hall : LmtsOk l ms ∧ SetOk l f ∧ SetOk l t
    · refine (begin_any l ms f t al am af at' cl cm cf ct w (h.env hall.1) hall.2.1 hall.2.2 h.sf h.st).mono ?_
      rintro e w' ⟨hg, h1, h2⟩
      have E : e18 l ms f t = if calS l ms f = true ∧ calS l ms t = true then 0 else 7 := by unfold e18; rw [if_pos hc, if_pos hall]
      refine ⟨hg, fun h0 => h1 ?_, fun h0 => ?_⟩
      · obtain ⟨_, _, _, q1, q2⟩ := e18_zero h0
        rw [q1, q2]; rfl
      · have hn : ¬ (calS l ms f = true ∧ calS l ms t = true) := fun q => h0 (by rw [E, if_pos q])
        rw [E, if_neg hn]
        refine h2 ?_
        cases a : calS l ms f <;> cases b : calS l ms t <;> simp_all
    · have E : e18 l ms f t = 1 := by unfold e18; rw [if_pos hc, if_neg hall]
      unfold Begun18
      rw [E]
      rw [hc] at S0
      have hxyz : ¬ (decide (LmtsOk l ms) = true ∧ decide (cchk l = 0 ∧ SetOk l f) = true ∧ decide (cchk l = 0 ∧ SetOk l t) = true) := fun ⟨a, b, c⟩ => hall ⟨of_decide_eq_true a, (of_decide_eq_true b).2, (of_decide_eq_true c).2⟩
      obtain ⟨x, hx⟩ : ∃ x, decide (LmtsOk l ms) = x := ⟨_, rfl⟩
      obtain ⟨y, hy⟩ : ∃ x, decide (cchk l = 0 ∧ SetOk l f) = x := ⟨_, rfl⟩
      obtain ⟨z, hz⟩ : ∃ x, decide (cchk l = 0 ∧ SetOk l t) = x := ⟨_, rfl⟩
      rw [hx] at S1
      rw [hy] at S2
      rw [hz] at S3
      rw [hx, hy, hz] at hxyz
      clear hx hy hz hc h E hall
      go_enter Tryz.func79, Tryz.ntmps79
      go_wp2_with fail
      refine (S0.out _ ((Gr.refl _).alloc _)).mono ?_
      rintro e w1 ⟨rfl, O1, D1, rfl⟩
      go_wp2_with fail
      refine (S1.out _ (by repeat (first | with_reducible exact Gr.refl _ | with_reducible refine Gr.xt _ _ ?_ | with_reducible refine Gr.alloc _ ?_))).mono ?_
      rintro e w2 ⟨rfl, O2, D2, rfl⟩
      cases x
      · clear hxyz
        go_wp2_with fail
        refine bodyPost_ret (v := .tuple #[.agg #[.slice none 0 0, .slice none 0 0, .map none], .int .i64 1]) ?_ rfl ?_
        · simp [results, Tryz.results79, go_sem]
        · exact ⟨(by repeat (first | with_reducible exact Gr.refl _ | with_reducible refine Gr.xt _ _ ?_ | with_reducible refine Gr.alloc _ ?_)), fun h => absurd h (by decide), fun _ => rfl⟩
      go_wp2_with fail
      refine (S2.out _ (by repeat (first | with_reducible exact Gr.refl _ | with_reducible refine Gr.xt _ _ ?_ | with_reducible refine Gr.alloc _ ?_))).mono ?_
      rintro e w3 ⟨rfl, O3, D3, rfl⟩
      cases y
      · clear hxyz
        go_wp2_with fail
        refine bodyPost_ret (v := .tuple #[.agg #[.slice none 0 0, .slice none 0 0, .map none], .int .i64 1]) ?_ rfl ?_
        · simp [results, Tryz.results79, go_sem]
        · exact ⟨(by repeat (first | with_reducible exact Gr.refl _ | with_reducible refine Gr.xt _ _ ?_ | with_reducible refine Gr.alloc _ ?_)), fun h => absurd h (by decide), fun _ => rfl⟩
      go_wp2_with fail
      refine (S3.out _ (by repeat (first | with_reducible exact Gr.refl _ | with_reducible refine Gr.xt _ _ ?_ | with_reducible refine Gr.alloc _ ?_))).mono ?_
      rintro e w4 ⟨rfl, O4, D4, rfl⟩
      cases z
      · clear hxyz
        go_wp2_with fail
        refine bodyPost_ret (v := .tuple #[.agg #[.slice none 0 0, .slice none 0 0, .map none], .int .i64 1]) ?_ rfl ?_
        · simp [results, Tryz.results79, go_sem]
        · exact ⟨(by repeat (first | with_reducible exact Gr.refl _ | with_reducible refine Gr.xt _ _ ?_ | with_reducible refine Gr.alloc _ ?_)), fun h => absurd h (by decide), fun _ => rfl⟩
      exact (hxyz (by simp)).elim
  · have E : e18 l ms f t = cchk l := by unfold e18; rw [if_neg hc]
    unfold Begun18
    rw [E]
    obtain ⟨B, hB⟩ : ∃ B, cchk l = B := ⟨_, rfl⟩
    rw [hB] at S0 hc ⊢
    have hb : (B != 0) = true := by simp [hc]
    have HC := Lib.hid hc
    clear E hB h S1 S2 S3
    go_enter Tryz.func79, Tryz.ntmps79
    go_wp2_with fail
    refine (S0.out _ ((Gr.refl _).alloc _)).mono ?_
    rintro e w1 ⟨rfl, O1, D1, rfl⟩
    go_wp2_with fail
    refine (S0.out _ (by repeat (first | with_reducible exact Gr.refl _ | with_reducible refine Gr.xt _ _ ?_ | with_reducible refine Gr.alloc _ ?_))).mono ?_
    rintro e w2 ⟨rfl, O2, D2, rfl⟩
    go_wp2_with fail
    refine bodyPost_ret (v := .tuple #[.agg #[.slice none 0 0, .slice none 0 0, .map none], .int .i64 B]) ?_ rfl ?_
    · simp [results, Tryz.results79, go_sem]
    · exact ⟨(by repeat (first | with_reducible exact Gr.refl _ | with_reducible refine Gr.xt _ _ ?_ | with_reducible refine Gr.alloc _ ?_)), fun h => absurd h HC.out, fun _ => rfl⟩
def HiR {α : Type} (lo : Nat) (R : World → Nat → Nat → α → Prop) (w : World) (b o : Nat) (x : α) : Prop := lo ≤ b ∧ R w b o x
theorem HiR.mono {α : Type} {lo : Nat} {R : World → Nat → Nat → α → Prop} (h : Mono R) : Mono (HiR lo R) := fun _ _ _ _ _ hg ⟨h1, h2⟩ => ⟨h1, h _ _ _ _ _ hg h2⟩
theorem SlOf.lo {α : Type} {n lo : Nat} {R : World → Nat → Nat → α → Prop} {w : World} {a : Option Addr} {xs : List α} (h : SlOf n (HiR lo R) w a xs) : SlOf n R w a xs := fun k hk => by
  obtain ⟨b, o, e, _, h2⟩ := h k hk
  exact ⟨b, o, e, h2⟩
theorem SlOf.mvH {α : Type} {n lo tb len : Nat} {R : World → Nat → Nat → α → Prop} {w W : World} {a : Option Addr} {xs : List α} (h : SlOf n (HiR lo R) w a xs) (hb : tb < lo) (hR : ∀ b o x, R w b o x → b ≠ tb → R W b o x) : SlOf n (HiR lo R) W a xs := fun k hk => by
  obtain ⟨b, o, e, h1, h2⟩ := h k hk
  exact ⟨b, o, e, h1, hR _ _ _ h2 (by omega)⟩
theorem intsH_mv {lo tb len : Nat} {w W : World} {a : Option Addr} {xs : List Int} (h : SlOf 1 (HiR lo RI) w a xs) (hb : tb < lo) (m : Mv tb len w W) : SlOf 1 (HiR lo RI) W a xs := h.mvH (len := len) hb fun _ _ _ ⟨h1, h2⟩ hne => ⟨m.cell hne h1, h2⟩
def RSetH (lo : Nat) (w : World) (b o : Nat) (s : List Int) : Prop := ∃ a c, w.cell? ⟨b, o, none⟩ = some (.slice a s.length c) ∧ SlOf 1 (HiR lo RI) w a s
theorem RI.mono' : Mono RI := RI.mono
theorem RSetH.mono {lo : Nat} : Mono (RSetH lo) := fun _ _ _ _ _ hg ⟨a, c, h, hs⟩ => ⟨a, c, cell_gr hg h, hs.gr (HiR.mono RI.mono') hg⟩
abbrev SetsH (lo : Nat) (w : World) (a : Option Addr) (cs : List (List Int)) : Prop := SlOf 1 (HiR lo (RSetH lo)) w a cs
abbrev WrsH (lo : Nat) (w : World) (a : Option Addr) (ps : List (Int × Int)) : Prop := SlOf 3 (HiR lo RWc) w a ps
theorem SetsH.sets {lo : Nat} {w : World} {a : Option Addr} {cs : List (List Int)} (h : SetsH lo w a cs) : SlOf 1 RSet w a cs := fun k hk => by
  obtain ⟨b, o, e, _, a', c', h1, h2⟩ := h k hk
  exact ⟨b, o, e, a', c', h1, h2.lo⟩
theorem SetsH.gr {lo : Nat} {w W : World} {a : Option Addr} {cs : List (List Int)} (h : SetsH lo w a cs) (hg : Gr w W) : SetsH lo W a cs := SlOf.gr (HiR.mono RSetH.mono) h hg
theorem SetsH.mv {lo tb len : Nat} {w W : World} {a : Option Addr} {cs : List (List Int)} (h : SetsH lo w a cs) (hb : tb < lo) (m : Mv tb len w W) : SetsH lo W a cs := SlOf.mvH (len := len) h hb fun _ _ _ ⟨a', c', h1, h2⟩ hne => ⟨a', c', m.cell hne h1, intsH_mv h2 hb m⟩
theorem WrsH.gr {lo : Nat} {w W : World} {a : Option Addr} {ps : List (Int × Int)} (h : WrsH lo w a ps) (hg : Gr w W) : WrsH lo W a ps := SlOf.gr (HiR.mono RWc.mono) h hg
theorem WrsH.mv {lo tb len : Nat} {w W : World} {a : Option Addr} {ps : List (Int × Int)} (h : WrsH lo w a ps) (hb : tb < lo) (m : Mv tb len w W) : WrsH lo W a ps := SlOf.mvH (len := len) h hb fun _ _ _ ⟨⟨a1, a2⟩, ⟨b1, b2⟩, ⟨c1, c2⟩⟩ hne => ⟨⟨m.cell hne a1, a2⟩, ⟨m.cell hne b1, b2⟩, ⟨m.cell hne c1, c2⟩⟩
theorem setsH_at {w : World} {lo base : Nat} {a : Option Addr} {c : Nat} {os : List OT} {l : List Clk} (hlo : lo ≤ base) (hc : cchk l = 0) (h : w.ownsRow base 22 1 (.slice a os.length c) os.length (os.map (encO l.length))) (ho : OsAt base w os) (hk : ∀ s ∈ os.map (·.t), SetOk l s) : SetsH lo w a (os.map (·.t)) := by
  intro k hk'
  have hk2 : k < os.length := by simpa using hk'
  obtain ⟨g, cap, e1, h1, hb, hcell⟩ := owns_cell h (by omega)
  cases e1
  have hs := hk _ (List.getElem_mem hk')
  refine ⟨g, 0, rfl, by omega, ?_⟩
  simp only [List.getElem_map] at hs ⊢
  have hB := ho _ (List.getElem_mem hk2)
  refine ⟨some ⟨os[k].B, 0, none⟩, os[k].c, ?_, fun j hj => ⟨os[k].B, 0, rfl, by have := hB.2; omega, ?_⟩⟩
  · rw [Nat.zero_add, hcell (k * 1) (by omega), Nat.mul_one, List.getElem?_map, List.getElem?_eq_getElem hk2, hs.1]
    rfl
  · rw [Nat.mul_one, Nat.zero_add]
    exact ⟨hB.1.iat j hj, setOk_wide hc hs j hj⟩
theorem writesH_at {w : World} {lo base : Nat} {v : Value} {ps : List (Int × Int)} (hlo : lo ≤ base) (h : w.ownsRow base 65 3 v ps.length (ps.flatMap encW)) (hw : WideW ps) : ∃ a c, v = .slice a ps.length c ∧ WrsH lo w a ps := by
  rcases Nat.eq_zero_or_pos ps.length with e | e
  · have : ps = [] := List.eq_nil_of_length_eq_zero e
    subst this
    obtain ⟨a, c, e⟩ := owns_slice h
    exact ⟨a, c, e, SlOf.nil _ _ _ _⟩
  · obtain ⟨g, cap, e1, h1, hb, hc⟩ := owns_cell h e
    refine ⟨_, cap, e1, fun k hk => ⟨g, 0, rfl, by omega, ?_⟩⟩
    have hf := fun j (hj : j < 3) => flat_at encW 3 (fun _ => rfl) ps k j hk hj
    have h2 : ∀ j, j < 3 → w.cell? ⟨g, k * 3 + j, none⟩ = (encW ps[k])[j]? := fun j hj => by
      rw [hc (k * 3 + j) (by omega), hf j hj]
    have hwk := hw _ (List.getElem_mem hk)
    rw [Nat.zero_add]
    exact ⟨⟨h2 0 (by omega), by unfold Wide; omega⟩, ⟨h2 1 (by omega), hwk.1⟩, ⟨h2 2 (by omega), hwk.2⟩⟩
def GivesSE (w : World) (cs : List (List Int)) (en : Int) (e : Ending) (w' : World) : Prop := ∃ (a : Option Addr) (c : Nat), e = .returned (.tuple #[.slice a cs.length c, .int .i64 en]) ∧ SlOf 1 RSet w' a cs ∧ Gr w w'
theorem GivesSE.none {w w' : World} {en : Int} (hg : Gr w w') : GivesSE w [] en (.returned (.tuple #[.slice none 0 0, .int .i64 en])) w' := ⟨_, 0, rfl, SlOf.nil _ _ _ _, hg⟩
def GivesSH (w : World) (cs : List (List Int)) (en : Int) (e : Ending) (w' : World) : Prop := ∃ (a : Option Addr) (c : Nat), e = .returned (.tuple #[.slice a cs.length c, .int .i64 en]) ∧ SetsH w.heap.size w' a cs ∧ Gr w w'
theorem GivesSH.none {w w' : World} {en : Int} (hg : Gr w w') : GivesSH w [] en (.returned (.tuple #[.slice none 0 0, .int .i64 en])) w' := ⟨_, 0, rfl, SlOf.nil _ _ _ _, hg⟩
def GivesWE (w : World) (ps : List (Int × Int)) (en : Int) (e : Ending) (w' : World) : Prop := ∃ (a : Option Addr) (c : Nat), e = .returned (.tuple #[.slice a ps.length c, .int .i64 en]) ∧ SlOf 3 RWc w' a ps ∧ Gr w w'
theorem GivesWE.none {w w' : World} {en : Int} (hg : Gr w w') : GivesWE w [] en (.returned (.tuple #[.slice none 0 0, .int .i64 en])) w' := ⟨_, 0, rfl, SlOf.nil _ _ _ _, hg⟩
def GivesWH (w : World) (ps : List (Int × Int)) (en : Int) (e : Ending) (w' : World) : Prop := ∃ (a : Option Addr) (c : Nat), e = .returned (.tuple #[.slice a ps.length c, .int .i64 en]) ∧ WrsH w.heap.size w' a ps ∧ Gr w w'
theorem GivesWH.none {w w' : World} {en : Int} (hg : Gr w w') : GivesWH w [] en (.returned (.tuple #[.slice none 0 0, .int .i64 en])) w' := ⟨_, 0, rfl, SlOf.nil _ _ _ _, hg⟩
def dA (l : List Clk) (n : Nat) (V : List (List Int × Int)) : List Int := (List.range n).map fun (i : Nat) => (look (V.map fun q => (num l q.1, q.2)) (i : Int)).getD (-1)
section
variable {l : List Clk} {cal : List Int → Bool} {V : List (List Int × Int)}
def KeysOk (l : List Clk) (V : List (List Int × Int)) : Prop := ∀ q ∈ V, SetOk l q.1
theorem dA_len (n : Nat) : (dA l n V).length = n := by simp [dA]
theorem dA_nil (n : Nat) : dA l n [] = List.replicate n (-1) := by
  apply List.ext_getElem
  · simp [dA]
  · intro i h1 h2; simp [dA, look]
theorem look_dA (hk : KeysOk l V) {s : List Int} (hs : SetOk l s) : look (V.map fun q => (num l q.1, q.2)) (num l s) = look V s :=
  look_map (num l) V s fun q hq e => num_inj (hk q hq) hs e
theorem dA_at (hk : KeysOk l V) {s : List Int} (hs : SetOk l s) {m n : Nat} (hm : num l s = (m : Int)) (h : m < (dA l n V).length) : (dA l n V)[m] = (look V s).getD (-1) := by
  simp only [dA, List.getElem_map, List.getElem_range]
  rw [← hm, look_dA hk hs]
theorem dA_snoc (hk : KeysOk l V) {s : List Int} (hs : SetOk l s) {m n : Nat} (hm : num l s = (m : Int)) {d : Int} (hv : look V s = none) : (dA l n V).set m d = dA l n (V ++ [(s, d)]) := by
  apply List.ext_getElem
  · simp [dA]
  · intro i h1 h2
    have hi : i < n := by simpa [dA] using h2
    rw [List.getElem_set]
    simp only [dA, List.getElem_map, List.getElem_range, List.map_append, List.map_cons, List.map_nil]
    rw [look_snoc]
    split
    · rename_i e
      subst e
      rw [← hm, look_dA hk hs, hv]
      simp
    · rename_i e
      split
      · rfl
      · rename_i q
        rw [if_neg (by rw [hm]; omega)]
        cases hx : look (V.map fun q => (num l q.1, q.2)) (i : Int) with
        | none => rfl
        | some _ => rw [hx] at q; simp at q
def vis (l : List Clk) (cal : List Int → Bool) (h : List Int) (d : Int) (V : List (List Int × Int)) (u v : Nat) : List (List Int × Int) := (nbTo l cal h u ++ nbRow cal h u v).foldl (addB d) V
theorem vis_zero (h : List Int) (d : Int) : vis l cal h d V 0 0 = V := by simp [vis, nbTo, nbRow]
theorem vis_row (h : List Int) (d : Int) (u : Nat) : vis l cal h d V u (kOf l u).toNat = vis l cal h d V (u + 1) 0 := by
  unfold vis
  rw [nbTo_succ]
  simp [nbRow]
theorem vis_all (h : List Int) (d : Int) : vis l cal h d V l.length 0 = (nbS l cal h).foldl (addB d) V := by
  unfold vis nbS
  simp [nbRow]
theorem vis_step {h : List Int} {d : Int} {u v : Nat} (hu : u < h.length) (hh : (look (vis l cal h d V u v) h).isSome = true) :
    vis l cal h d V u (v + 1) = if look (vis l cal h d V u v) (h.set u (v : Int)) = none ∧ cal (h.set u (v : Int)) = true then vis l cal h d V u v ++ [(h.set u (v : Int), d + 1)] else vis l cal h d V u v := by
  have e : vis l cal h d V u (v + 1) = (nbOne cal h u v).toList.foldl (addB d) (vis l cal h d V u v) := by
    unfold vis
    rw [nbRow_succ, ← List.append_assoc, List.foldl_append]
  rw [e]
  unfold nbOne
  split
  · rename_i q
    simp only [Option.toList, List.foldl_cons, List.foldl_nil, addB]
    split
    · rename_i p
      rw [if_neg]
      rintro ⟨r, _⟩
      rw [r] at p; cases p
    · rename_i p
      rw [if_pos]
      refine ⟨?_, q.2⟩
      cases hx : look (vis l cal h d V u v) (h.set u (v : Int)) with
      | none => rfl
      | some _ => rw [hx] at p; simp at p
  · rename_i q
    simp only [Option.toList, List.foldl_nil]
    rw [if_neg]
    rintro ⟨r, c⟩
    apply q
    refine ⟨fun ev => ?_, c⟩
    have : h.set u (v : Int) = h := by
      rw [ev, sOf_at hu]
      exact List.set_getElem_self hu
    rw [this] at r
    rw [r] at hh; cases hh
theorem look_ext {W E : List (List Int × Int)} {k : List Int} (h : (look W k).isSome = true) : look (W ++ E) k = look W k := by
  induction W with
  | nil => simp [look] at h
  | cons q W ih =>
    rw [List.cons_append, look_cons, look_cons]
    split
    · rfl
    · rename_i hne
      rw [look_cons, if_neg hne] at h
      exact ih h
theorem vis_ext (h : List Int) (d : Int) (u v : Nat) : ∃ E, vis l cal h d V u v = V ++ E := by
  obtain ⟨E, e, _⟩ := foldB d (nbTo l cal h u ++ nbRow cal h u v) V
  exact ⟨E, e⟩
theorem foldB_mono (d : Int) (ts : List Nbr) (V : List (List Int × Int)) : ∃ E, ts.foldl (addB d) V = V ++ E := by
  obtain ⟨E, e, _⟩ := foldB d ts V
  exact ⟨E, e⟩
theorem nb_prefix (h : List Int) {u v : Nat} (hu : u < l.length) (hv : (v : Int) ≤ kOf l u) : ∃ R, nbS l cal h = (nbTo l cal h u ++ nbRow cal h u v) ++ R := by
  have h1 : ∀ k, ∃ R, nbTo l cal h (u + k) = nbTo l cal h u ++ R := by
    intro k
    induction k with
    | zero => exact ⟨[], by simp⟩
    | succ k ih =>
      obtain ⟨R, e⟩ := ih
      exact ⟨R ++ nbRow cal h (u + k) (kOf l (u + k)).toNat, by rw [← Nat.add_assoc, nbTo_succ, e, List.append_assoc]⟩
  have h2 : ∀ k, ∃ R, nbRow cal h u (v + k) = nbRow cal h u v ++ R := by
    intro k
    induction k with
    | zero => exact ⟨[], by simp⟩
    | succ k ih =>
      obtain ⟨R, e⟩ := ih
      exact ⟨R ++ (nbOne cal h u (v + k)).toList, by rw [← Nat.add_assoc, nbRow_succ, e, List.append_assoc]⟩
  obtain ⟨R2, e2⟩ := h2 ((kOf l u).toNat - v)
  rw [show v + ((kOf l u).toNat - v) = (kOf l u).toNat by omega] at e2
  have e3 := nbTo_succ l cal h u
  rw [e2] at e3
  obtain ⟨R1, e1⟩ : ∃ R, nbTo l cal h l.length = nbTo l cal h (u + 1) ++ R := by
    have h1' : ∀ k, ∃ R, nbTo l cal h (u + 1 + k) = nbTo l cal h (u + 1) ++ R := by
      intro k
      induction k with
      | zero => exact ⟨[], by simp⟩
      | succ k ih =>
        obtain ⟨R, e⟩ := ih
        exact ⟨R ++ nbRow cal h (u + 1 + k) (kOf l (u + 1 + k)).toNat, by rw [← Nat.add_assoc, nbTo_succ, e, List.append_assoc]⟩
    have := h1' (l.length - (u + 1))
    rwa [show u + 1 + (l.length - (u + 1)) = l.length by omega] at this
  exact ⟨R2 ++ R1, by unfold nbS; rw [e1, e3]; simp [List.append_assoc]⟩
theorem vis_after {src : List Int} {p : Nat} {h : List Int} {d : Int} (hp : (afterB (nbS l cal) src p)[p]? = some (h, d)) {u v : Nat} (hu : u < l.length) (hv : (v : Int) ≤ kOf l u) : ∃ E, afterB (nbS l cal) src (p + 1) = vis l cal h d (afterB (nbS l cal) src p) u v ++ E := by
  obtain ⟨R, e⟩ := nb_prefix (cal := cal) h hu hv
  have : afterB (nbS l cal) src (p + 1) = (nbS l cal h).foldl (addB d) (afterB (nbS l cal) src p) := by
    show stepB (nbS l cal) (afterB (nbS l cal) src p) p = _
    unfold stepB
    rw [hp]
  rw [this, e, List.foldl_append]
  exact foldB_mono d R _
theorem after_bnd (src : List Int) : ∀ p, ∀ q ∈ afterB (nbS l cal) src p, 0 ≤ q.2 ∧ q.2 ≤ (p : Int) := by
  intro p
  induction p with
  | zero => intro q hq; have : q = (src, 0) := by simpa [afterB] using hq
            subst this; simp
  | succ p ih =>
    intro q hq
    rw [show afterB (nbS l cal) src (p + 1) = stepB (nbS l cal) (afterB (nbS l cal) src p) p from rfl] at hq
    unfold stepB at hq
    split at hq
    · have := ih q hq; omega
    · rename_i x hx
      obtain ⟨E, e, h2, _⟩ := foldB x.2 (nbS l cal x.1) (afterB (nbS l cal) src p)
      rw [e] at hq
      have hxm := ih x (List.mem_of_getElem? hx)
      rcases List.mem_append.1 hq with hq | hq
      · have := ih q hq; omega
      · have := (h2 q hq).1; omega
end
def CollI {β : Type} (V : List (Int × β)) (left : Lit → Bool) (zs : List Int) : Prop := zs.Nodup ∧ ∀ x, x ∈ zs ↔ ((look V x).isSome = true ∧ left (.int .i64 x) = false)
section
variable {β : Type} {V : List (Int × β)} {left : Lit → Bool} {zs : List Int}
theorem CollI.start (h : ∀ k, left (.int .i64 k) = (look V k).isSome) : CollI V left [] := ⟨List.nodup_nil, fun x => by rw [h x]; cases (look V x).isSome <;> simp⟩
theorem CollI.step (h : CollI V left zs) {x : Int} (hl : left (.int .i64 x) = true) (hx : (look V x).isSome = true) : CollI V (fun z => left z && !z.sameKey (.int .i64 x)) (zs ++ [x]) := by
  have hnew : x ∉ zs := fun hm => by have := ((h.2 x).1 hm).2; rw [hl] at this; cases this
  refine ⟨List.nodup_append.2 ⟨h.1, by simp, fun a ha b hb => by simp at hb; subst hb; exact fun e => hnew (e ▸ ha)⟩, fun y => ?_⟩
  by_cases hy : y = x
  · subst hy; simp [hx, Lit.sameKey]
  · simp [h.2 y, hy, Lit.sameKey]
theorem CollI.len (h : CollI V left zs) {n : Nat} (hb : ∀ x, (look V x).isSome = true → 0 ≤ x ∧ x < (n : Int)) : zs.length ≤ n := nodup_int_le h.1 (fun x hx => hb x ((h.2 x).1 hx).1)
end
theorem mergeSort_strict {zs : List Int} (hn : zs.Nodup) : (zs.mergeSort fun x y => decide (x ≤ y)).Pairwise (· < ·) := by
  have tr : ∀ a b c : Int, decide (a ≤ b) = true → decide (b ≤ c) = true → decide (a ≤ c) = true := fun a b c h1 h2 => by simp only [decide_eq_true_eq] at *; omega
  have tot : ∀ a b : Int, (decide (a ≤ b) || decide (b ≤ a)) = true := fun a b => by simp only [Bool.or_eq_true, decide_eq_true_eq]; omega
  have h1 := List.pairwise_mergeSort tr tot zs
  have h2 : (zs.mergeSort fun x y => decide (x ≤ y)).Nodup := (List.mergeSort_perm zs _).nodup_iff.2 hn
  have h2' : (zs.mergeSort fun x y => decide (x ≤ y)).Pairwise (· ≠ ·) := h2
  exact (h1.and h2').imp (fun {a b} h => by have := h.1; simp only [decide_eq_true_eq] at this; have := h.2; omega)
theorem sets_of {l : List Clk} {P : List Int → Prop} : ∀ zs : List Int, (∀ x ∈ zs, ∃ s, P s ∧ num l s = x) → ∃ cs : List (List Int), cs.map (num l) = zs ∧ ∀ s ∈ cs, P s := by
  intro zs
  induction zs with
  | nil => intro _; exact ⟨[], rfl, by simp⟩
  | cons z zs ih =>
    intro h
    obtain ⟨cs, e, hp⟩ := ih (fun x hx => h x (List.mem_cons_of_mem _ hx))
    obtain ⟨s, hs, e2⟩ := h z List.mem_cons_self
    exact ⟨s :: cs, by simp [e, e2], fun u hu => by rcases List.mem_cons.1 hu with e | e; (subst e; exact hs); exact hp u e⟩
theorem sorted_sets {l : List Clk} {D : List Int → Option Int} {V : List (List Int × Int)} {left : Lit → Bool} {zs : List Int} (hV : ∀ q ∈ V, SetOk l q.1) (hD : D = look V) (hc : CollI (V.map fun q => (num l q.1, q.2)) left zs) (hl : ∀ k, left (.int .i64 k) = false) :
    ∃ cs : List (List Int), cs.map (num l) = (zs.mergeSort fun x y => decide (x ≤ y)) ∧ ListOk l cs ∧ (∀ s, s ∈ cs ↔ (D s).isSome) ∧ ∀ i j (hi : i < cs.length) (hj : j < i), num l cs[j] < num l cs[i] := by
  subst hD
  have hmem : ∀ x, x ∈ (zs.mergeSort fun x y => decide (x ≤ y)) ↔ x ∈ zs := fun x => List.mem_mergeSort
  have hfrom : ∀ x ∈ (zs.mergeSort fun x y => decide (x ≤ y)), ∃ s, (SetOk l s ∧ (look V s).isSome) ∧ num l s = x := fun x hx => by
    have h1 := ((hc.2 x).1 ((hmem x).1 hx)).1
    obtain ⟨d, hd⟩ := Option.isSome_iff_exists.1 h1
    obtain ⟨q, hq, e⟩ := List.mem_map.1 (look_some hd)
    injection e with e1 e2
    have := look_num (l := l) hV (hV q hq)
    rw [e1, hd] at this
    exact ⟨q.1, ⟨hV q hq, by rw [← this]; rfl⟩, e1⟩
  obtain ⟨cs, e, hp⟩ := sets_of (l := l) (P := fun s => SetOk l s ∧ (look V s).isSome) _ hfrom
  refine ⟨cs, e, fun s hs => (hp s hs).1, fun s => ⟨fun hs => (hp s hs).2, fun hs => ?_⟩, fun i j hi hj => ?_⟩
  · obtain ⟨d, hd⟩ := Option.isSome_iff_exists.1 hs
    have hso := hV _ (look_some hd)
    have h1 : (look (V.map fun q => (num l q.1, q.2)) (num l s)).isSome = true := by rw [look_num hV hso]; exact hs
    have h2 : num l s ∈ cs.map (num l) := by rw [e, hmem]; exact (hc.2 _).2 ⟨h1, hl _⟩
    obtain ⟨u, hu, eu⟩ := List.mem_map.1 h2
    have := num_inj (hp u hu).1 hso eu
    subst this; exact hu
  · have hst := mergeSort_strict hc.1
    rw [← e, List.pairwise_map] at hst
    exact List.pairwise_iff_getElem.1 hst j i (by omega) hi hj
theorem inc_unique : ∀ (zs ws : List Int), zs.Pairwise (· < ·) → ws.Pairwise (· < ·) → (∀ x, x ∈ zs ↔ x ∈ ws) → zs = ws := by
  intro zs
  induction zs with
  | nil =>
    intro ws _ _ h
    cases ws with
    | nil => rfl
    | cons b ws => exact absurd ((h b).2 List.mem_cons_self) (by simp)
  | cons a zs ih =>
    intro ws h1 h2 h
    cases ws with
    | nil => exact absurd ((h a).1 List.mem_cons_self) (by simp)
    | cons b ws =>
      rw [List.pairwise_cons] at h1 h2
      have hab : a = b := by
        rcases List.mem_cons.1 ((h a).1 List.mem_cons_self) with e | e
        · exact e
        · rcases List.mem_cons.1 ((h b).2 List.mem_cons_self) with e2 | e2
          · exact e2.symm
          · have := h2.1 a e; have := h1.1 b e2; omega
      subst hab
      rw [ih ws h1.2 h2.2 (fun x => ?_)]
      constructor
      · intro hx
        rcases List.mem_cons.1 ((h x).1 (List.mem_cons_of_mem _ hx)) with e | e
        · subst e; have := h1.1 x hx; omega
        · exact e
      · intro hx
        rcases List.mem_cons.1 ((h x).2 (List.mem_cons_of_mem _ hx)) with e | e
        · subst e; have := h2.1 x hx; omega
        · exact e
theorem map_num_inj {l : List Clk} : ∀ (cs ds : List (List Int)), ListOk l cs → ListOk l ds → cs.map (num l) = ds.map (num l) → cs = ds := by
  intro cs
  induction cs with
  | nil => intro ds _ _ e; cases ds with
    | nil => rfl
    | cons d ds => simp at e
  | cons c cs ih =>
    intro ds hc hd e
    cases ds with
    | nil => simp at e
    | cons d ds =>
      rw [List.map_cons, List.map_cons, List.cons.injEq] at e
      rw [num_inj (hc c List.mem_cons_self) (hd d List.mem_cons_self) e.1, ih ds (fun s hs => hc s (List.mem_cons_of_mem _ hs)) (fun s hs => hd s (List.mem_cons_of_mem _ hs)) e.2]
structure ClsTo (l : List Clk) (D : List Int → Option Int) (n : Nat) (cs : List (List Int)) : Prop where
  ok : ListOk l cs
  mem : ∀ s, s ∈ cs ↔ (SetOk l s ∧ (D s).isSome = true ∧ num l s < (n : Int))
  inc : (cs.map (num l)).Pairwise (· < ·)
structure ClsOk (l : List Clk) (D : List Int → Option Int) (cs : List (List Int)) : Prop where
  ok : ListOk l cs
  mem : ∀ s, s ∈ cs ↔ (D s).isSome = true
  inc : (cs.map (num l)).Pairwise (· < ·)
section
variable {l : List Clk} {D : List Int → Option Int} {cs ds : List (List Int)} {V : List (List Int × Int)}
theorem ClsOk.unique (h : ClsOk l D cs) (h' : ClsOk l D ds) : cs = ds := by
  refine map_num_inj cs ds h.ok h'.ok (inc_unique _ _ h.inc h'.inc (fun x => ?_))
  have : ∀ s, s ∈ cs ↔ s ∈ ds := fun s => by rw [h.mem, h'.mem]
  constructor
  · intro hx
    obtain ⟨s, hs, e⟩ := List.mem_map.1 hx
    exact List.mem_map.2 ⟨s, (this s).1 hs, e⟩
  · intro hx
    obtain ⟨s, hs, e⟩ := List.mem_map.1 hx
    exact List.mem_map.2 ⟨s, (this s).2 hs, e⟩
theorem clsOk_of (h1 : ListOk l cs) (h2 : ∀ s, s ∈ cs ↔ (D s).isSome = true) (h3 : ∀ i j (hi : i < cs.length) (hj : j < i), num l cs[j] < num l cs[i]) : ClsOk l D cs :=
  ⟨h1, h2, by rw [List.pairwise_map]; exact List.pairwise_iff_getElem.2 (fun i j hi hj hij => h3 j i hj hij)⟩
theorem ClsTo.zero : ClsTo l D 0 [] := ⟨fun s hs => (by cases hs), fun s => ⟨fun h => (by cases h), fun ⟨h1, _, h2⟩ => by have := (num_bound h1).1; omega⟩, List.Pairwise.nil⟩
theorem ClsTo.skip {n : Nat} (h : ClsTo l D n cs) (hn : ∀ s, SetOk l s → num l s = (n : Int) → D s = none) : ClsTo l D (n + 1) cs := by
  refine ⟨h.ok, fun s => ?_, h.inc⟩
  rw [h.mem]
  constructor
  · rintro ⟨a, b, c⟩; exact ⟨a, b, by omega⟩
  · rintro ⟨a, b, c⟩
    refine ⟨a, b, ?_⟩
    by_cases e : num l s = (n : Int)
    · rw [hn s a e] at b; cases b
    · omega
theorem ClsTo.add {n : Nat} (h : ClsTo l D n cs) {s : List Int} (hs : SetOk l s) (hn : num l s = (n : Int)) (hd : (D s).isSome = true) : ClsTo l D (n + 1) (cs ++ [s]) := by
  refine ⟨fun x hx => ?_, fun x => ?_, ?_⟩
  · rcases List.mem_append.1 hx with hx | hx
    · exact h.ok x hx
    · have : x = s := by simpa using hx
      subst this; exact hs
  · rw [List.mem_append, h.mem]
    constructor
    · rintro (⟨a, b, c⟩ | hx)
      · exact ⟨a, b, by omega⟩
      · have : x = s := by simpa using hx
        subst this; exact ⟨hs, hd, by omega⟩
    · rintro ⟨a, b, c⟩
      by_cases e : num l x = (n : Int)
      · right
        rw [num_inj a hs (by rw [e, hn])]; simp
      · left; exact ⟨a, b, by omega⟩
  · rw [List.map_append, List.pairwise_append]
    refine ⟨h.inc, by simp, fun a ha b hb => ?_⟩
    obtain ⟨x, hx, rfl⟩ := List.mem_map.1 ha
    have := ((h.mem x).1 hx).2.2
    have e : b = num l s := by simpa using hb
    rw [e, hn]; exact this
theorem ClsTo.all {n : Nat} (h : ClsTo l D n cs) (hn : prodC l = n) (hD : ∀ s, (D s).isSome = true → SetOk l s) : ClsOk l D cs := by
  refine ⟨h.ok, fun s => ?_, h.inc⟩
  rw [h.mem]
  exact ⟨fun q => q.2.1, fun q => ⟨hD s q, q, by have := (num_bound (hD s q)).2; rw [hn] at this; exact this⟩⟩
theorem dA_cell {n N : Nat} (h : n < N) : (dA l N V)[n]'(by rw [dA_len]; exact h) = (look (V.map fun q => (num l q.1, q.2)) (n : Int)).getD (-1) := by simp [dA]
theorem dA_none (hk : KeysOk l V) {n N : Nat} (h : n < N) (hneg : (dA l N V)[n]'(by rw [dA_len]; exact h) < 0) (hv : ∀ q ∈ V, 0 ≤ q.2) : ∀ s, SetOk l s → num l s = (n : Int) → look V s = none := by
  intro s hs hn
  rw [dA_cell h] at hneg
  cases hx : look V s with
  | none => rfl
  | some d =>
    have := look_dA hk hs
    rw [hn, hx] at this
    rw [this] at hneg
    have := hv _ (look_some hx)
    simp at hneg this
    omega
theorem dA_some (hk : KeysOk l V) {n N : Nat} (h : n < N) (hpos : ¬ (dA l N V)[n]'(by rw [dA_len]; exact h) < 0) : ∃ s, SetOk l s ∧ num l s = (n : Int) ∧ (look V s).isSome = true := by
  rw [dA_cell h] at hpos
  cases hx : look (V.map fun q => (num l q.1, q.2)) (n : Int) with
  | none => rw [hx] at hpos; simp at hpos
  | some d =>
    obtain ⟨q, hq, e⟩ := List.mem_map.1 (look_some hx)
    injection e with e1 e2
    have := look_dA hk (hk q hq)
    rw [e1, hx] at this
    exact ⟨q.1, hk q hq, e1, by rw [← this]; rfl⟩
theorem ClsTo.len {n : Nat} (h : ClsTo l D n cs) : cs.length ≤ n := by
  have h1 : (cs.map (num l)).Nodup := h.inc.imp (fun {a b} q => by omega)
  have := nodup_int_le (n := n) h1 (fun x hx => by
    obtain ⟨s, hs, rfl⟩ := List.mem_map.1 hx
    have := (h.mem s).1 hs
    exact ⟨(num_bound this.1).1, this.2.2⟩)
  simpa using this
theorem ClsOk.len (h : ClsOk l D cs) : cs.length ≤ prodC l := by
  have h1 : (cs.map (num l)).Nodup := h.inc.imp (fun {a b} q => by omega)
  have := nodup_int_le (n := prodC l) h1 (fun x hx => by
    obtain ⟨s, hs, rfl⟩ := List.mem_map.1 hx
    exact num_bound (h.ok s hs))
  simpa using this
end
end Go.Proofs.YtenehghpmnajpaaGreatDoor
