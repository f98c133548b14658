/- Lemmas and contracts for the proof of RetuneAnswers (several texts in one, printed by wip/tools/pack.py): RpP Kw La Lb Lc OsA BnA BnC SsG BsA Bs6. -/
import Derived.Test.YtenehghpmnajpaaGreatDoorRa8pq
import Derived.Test.YtenehghpmnajpaaGreatDoorRa8pr
import Derived.Test.YtenehghpmnajpaaGreatDoorRa8ps
import Derived.Test.YtenehghpmnajpaaGreatDoorRa8pp
import Derived.Laws.OwnMore
import Derived.Test.YtenehghpmnajpaaGreatDoorRa8po
import Derived.Test.YtenehghpmnajpaaGreatDoorRa8pd
import Derived.Test.YtenehghpmnajpaaGreatDoorRa8pk
import Derived.Deep.Slices
set_option maxRecDepth 100000
set_option maxHeartbeats 16000000
set_option linter.unusedVariables false
set_option linter.unusedSimpArgs false
namespace Go.Proofs.YtenehghpmnajpaaGreatDoor
open Go.RowKit
open Classical
noncomputable def plE (l : List Clk) (ms : List Lmt) (f t : List Int) : Int := if e18 l ms f t = 0 then (if dS l (calS l ms) t f = none then 9 else 0) else e18 l ms f t
noncomputable def plW (l : List Clk) (ms : List Lmt) (f t : List Int) : List (Int × Int) := if e18 l ms f t = 0 ∧ dS l (calS l ms) t f ≠ none then planS l (calS l ms) (dS l (calS l ms) t) f else []
section
variable {l : List Clk} {ms : List Lmt} {f t : List Int}
theorem plE_none (h : e18 l ms f t = 0) (h2 : dS l (calS l ms) t f = none) : plE l ms f t = 9 ∧ plW l ms f t = [] := by
  unfold plE plW
  rw [if_pos h, if_pos h2, if_neg (fun q => q.2 h2)]; exact ⟨rfl, rfl⟩
theorem plE_some (h : e18 l ms f t = 0) (h2 : dS l (calS l ms) t f ≠ none) : plE l ms f t = 0 ∧ plW l ms f t = planS l (calS l ms) (dS l (calS l ms) t) f := by
  unfold plE plW
  rw [if_pos h, if_neg h2, if_pos ⟨h, h2⟩]; exact ⟨rfl, rfl⟩
theorem plE_err (h : e18 l ms f t ≠ 0) : plE l ms f t = e18 l ms f t ∧ plW l ms f t = [] := by
  unfold plE plW
  rw [if_neg h, if_neg (fun q => h q.1)]; exact ⟨rfl, rfl⟩
theorem wide_ws {ps : List (Int × Int)} (hc : cchk l = 0) (h : ∀ p ∈ ps, WrOk l p) : WideW ps := fun p hp => by
  obtain ⟨u, v, rfl, hu, hv⟩ := h p hp
  have hl := small_len (cchk_zero hc).1
  obtain ⟨fp, fc⟩ := small_at (cchk_zero hc).1 hu
  rw [kOf_at hu] at hv
  exact ⟨by unfold Wide; simp only; omega, by unfold Wide; simp only; omega⟩
theorem plW_ok : cchk l = 0 → (∀ p ∈ plW l ms f t, WrOk l p) ∧ (plW l ms f t).length ≤ 4096 := by
  intro hc
  by_cases h0 : e18 l ms f t = 0
  · obtain ⟨lo, fo, tO, fc, tc⟩ := e18_zero h0
    cases hd : dS l (calS l ms) t f with
    | none => rw [(plE_none h0 hd).2]; simp
    | some d =>
      rw [(plE_some h0 (by rw [hd]; simp)).2]
      have hD := dS_ok tO tc
      have hl := planS_len hD hd
      refine ⟨(planS_ok hD hd).1, ?_⟩
      have hm := look_some hd
      have h1 := after_len (l := l) tO tc (prodC l)
      have h2 := (cchk_zero hc).2.2.1
      have h4 := after_dist_lt tO tc (prodC l) _ hm
      simp only at h4
      omega
  · rw [(plE_err h0).2]; simp
theorem plW_nil (h : e18 l ms f t ≠ 0) : plW l ms f t = [] := (plE_err h).2
end
theorem pPlanG_any (l : List Clk) (ms : List Lmt) (f t : List Int) (al am af at' : Option Addr) (cl cm cf ct : Nat) (w : World) (h : Env18 w l ms f t al am af at') :
    Calls Tryz.prog 30 #[.slice al l.length cl, .slice af f.length cf, .slice at' t.length ct, .slice am ms.length cm] w (GivesWE w (plW l ms f t) (plE l ms f t)) := by
  by_cases h0 : e18 l ms f t = 0
  · obtain ⟨lo, fo, tO, fc, tc⟩ := e18_zero h0
    have henv := h.env lo
    refine (plan_any l ms f t al am af at' cl cm cf ct w henv fo tO h.sf h.st).mono ?_
    rintro e w' ⟨hg, _, q⟩
    obtain ⟨D, hD, h1, h2⟩ := q (by rw [fc, tc]; rfl)
    obtain rfl := dS_unique hD tO tc
    cases hd : dS l (calS l ms) t f with
    | none =>
      obtain ⟨x1, x2⟩ := plE_none h0 hd
      rw [x1, x2, h1 hd]
      exact .none hg
    | some d =>
      obtain ⟨x1, x2⟩ := plE_some h0 (by rw [hd]; simp)
      obtain ⟨v, rfl, ho⟩ := h2 d hd
      have W := (plW_ok (l := l) (ms := ms) (f := f) (t := t) henv.chk).1
      rw [x2] at W
      obtain ⟨a, c, rfl, _, hsl⟩ := writes_at ho (wide_ws henv.chk W)
      rw [x1, x2]
      exact ⟨a, c, rfl, hsl, hg⟩
  · have BG := Lib.hid (pBegin18_any l ms f t al am af at' cl cm cf ct w h)
    obtain ⟨x1, x2⟩ := plE_err h0
    rw [x1, x2]
    obtain ⟨E, hE⟩ : ∃ E, e18 l ms f t = E := ⟨_, rfl⟩
    unfold Begun18 at BG
    rw [hE] at BG h0 ⊢
    have hb : (E != 0) = true := by simp [h0]
    have H0 := Lib.hid h0
    clear hE x1 x2 h h0
    go_enter Tryz.func30, Tryz.ntmps30
    go_wp2_with fail
    refine BG.out.mono ?_
    rintro e w1 ⟨hg, _, h7⟩
    obtain rfl := h7 H0.out
    have G1 := Lib.hid hg
    clear h7 hg
    go_wp2_with fail
    go_ret2
    exact .none (by first | exact G1.out.alloc _ | exact G1.out)
theorem plan_round {l : List Clk} {cal : List Int → Bool} {src : List Int} {V : List (List Int × Int)} (h : DistOk l cal src (look V)) {g : Nat} {s : List Int} (hs : look V s = some ((g + 1 : Nat) : Int)) {t : Nbr} (ht : (nbS l cal s).find? (nearer V s) = some t) :
    planB (nbS l cal) (dz (look V)) (g + 1) s = (t.1, t.2.1) :: planB (nbS l cal) (dz (look V)) g t.2.2 ∧ look V t.2.2 = some (g : Int) := by
  obtain ⟨t', h1, h2, h3⟩ := h.found hs (by omega)
  have e : t = t' := by
    have : (nbS l cal s).find? (nearer V s) = some t' := h1
    rw [this] at ht
    injection ht with ht
    exact ht.symm
  subst e
  have hz : dz (look V) s = ((g + 1 : Nat) : Int) := by simp [dz, hs]
  refine ⟨?_, by rw [h3]; congr 1; omega⟩
  simp only [planB]
  rw [if_pos (by omega), h1]
theorem refPlan_ok (l : List Clk) (ms : List Lmt) (f t : List Int) (al am af at' : Option Addr) (cl cm cf ct : Nat) (w : World) (h : Env18 w l ms f t al am af at') (h0 : e18 l ms f t = 0) :
    Calls Tryz.prog 36 #[.slice al l.length cl, .slice af f.length cf, .slice at' t.length ct, .slice am ms.length cm] w (GivesWH w (plW l ms f t) (plE l ms f t)) := by
  obtain ⟨lo, fo, tO, fc, tc⟩ := e18_zero h0
  have henv := h.env lo
  have BG := Lib.hid (refBegin18_any l ms f t al am af at' cl cm cf ct w h)
  rw [h0] at BG
  have DS := Lib.hid (fun W (hW : Gr w W) => distances_any l ms t al am at' cl cm ct W ((h.gr hW).env lo) tO (h.gr hW).st tc)
  have NF := Lib.hid (fun W (hW : Gr w W) => refNumber_any l f al af cl cf W (h.gr hW).clks (h.gr hW).sf henv.chk fo)
  have SF := Lib.hid h.sf
  have ST := Lib.hid h.st
  have HCL := Lib.hid h.clks
  have WK := (plW_ok (l := l) (ms := ms) (f := f) (t := t) henv.chk).1
  rw [fo.1, tO.1] at BG
  rw [fo.1, tO.1]
  rw [tO.1] at DS
  rw [fo.1] at NF
  have TO := Lib.hid tO
  have FO := Lib.hid fo
  have TC := Lib.hid tc
  have CK := Lib.hid henv.chk
  have C1 := Lib.hid (fun q => plE_none h0 q)
  have C2 := Lib.hid (fun q => plE_some h0 q)
  have hl := small_len (cchk_zero henv.chk).1
  have PR := (cchk_zero henv.chk).2.2.1
  obtain ⟨N, hN⟩ : ∃ N, prodC l = N := ⟨_, rfl⟩
  have EN := Lib.hid hN
  rw [hN] at DS PR
  obtain ⟨xE, hxE⟩ : ∃ x, plE l ms f t = x := ⟨_, rfl⟩
  obtain ⟨xW, hxW⟩ : ∃ x, plW l ms f t = x := ⟨_, rfl⟩
  rw [hxE, hxW] at C1 C2
  rw [hxW] at WK
  rw [hxE, hxW]
  have WW := Lib.hid WK
  have FTL := Lib.hid h.ft
  obtain ⟨i0, hi, hz0, hz1, hz2⟩ := info_parts infoW
  clear h h0 lo henv fo tO fc tc hN hxE hxW WK
  go_enter Tryz.func36, Tryz.ntmps36
  go_wp2_with fail
  refine BG.out.mono ?_
  rintro e w1 ⟨rfl, hg1⟩
  have G1 := Lib.hid hg1
  clear hg1 BG
  go_wp2_with fail
  refine (DS.out w1 G1.out).mono ?_
  rintro e w2 ⟨D, V, rfl, hk, hd, hv, hr, hD, hg2⟩
  have G2 := Lib.hid (G1.out.trans hg2)
  have KO := Lib.hid hk
  have DO := Lib.hid hd
  have VB := Lib.hid hv
  have RD := Lib.hid hr
  have LD : Hid (w.heap.size ≤ D) := Lib.hid (by have := G1.out.size; omega)
  have DU : Hid (look V = dS l (calS l ms) t) := Lib.hid (dS_unique hd TO.out TC.out)
  clear hk hd hv hr hD hg2 DS G1
  go_wp2_with fail
  refine (NF.out w2 G2.out).mono ?_
  rintro e w3 ⟨rfl, hg3⟩
  have G3 := Lib.hid (G2.out.trans hg3)
  have R3 := Lib.hid (RD.out.gr hg3)
  clear hg3 NF G2 RD
  have nbs := num_bound FO.out
  rw [EN.out] at nbs
  obtain ⟨m, hm⟩ : ∃ m : Nat, num l f = (m : Int) := ⟨(num l f).toNat, by omega⟩
  have HM := Lib.hid hm
  rw [hm] at nbs ⊢
  have mk : m < (dA l N V).length := by rw [dA_len]; omega
  have c0 := R3.out.iat m mk
  rw [dA_at KO.out FO.out HM.out mk] at c0
  have ch := R3.out.has
  have m2 : (m : Int) < N := by omega
  cases hx : look V f with
  | none =>
    have e9 := Lib.hid (C1.out (by rw [← DU.out, hx]))
    rw [hx] at c0
    simp only [Option.getD_none] at c0
    clear hx hm mk
    go_wp2_with fail
    go_ret2
    rw [e9.out.1, e9.out.2]
    exact .none G3.out
  | some d =>
    have d0 : 0 ≤ d ∧ d ≤ 4096 := VB.out _ (look_some hx)
    have e0 := Lib.hid (C2.out (by rw [← DU.out, hx]; simp))
    rw [hx] at c0
    simp only [Option.getD_some] at c0
    have db : decide (d < 0) = false := decide_eq_false (by omega)
    obtain ⟨n, hn⟩ : ∃ n : Nat, d = n := ⟨d.toNat, by omega⟩
    have HX : Hid (look V f = some (n : Int)) := Lib.hid (by rw [hx, hn])
    have n4 : n ≤ 4096 := by omega
    have PL0 : Hid (planB (nbS l (calS l ms)) (dz (look V)) n f = xW) := Lib.hid (by
      rw [e0.out.2, ← DU.out]
      have : dz (look V) f = (n : Int) := by simp [dz, HX.out]
      rw [planS, this, Int.toNat_natCast])
    clear hx hm mk d0 hn
    go_wp2_with fail
    clear c0 ch m2 db
    obtain ⟨w5, rfl⟩ : ∃ wo : World, wo = w3 := ⟨_, rfl⟩
    have LF := Lib.hid FO.out.1
    have LT := Lib.hid TO.out.1
    go_loopg [12, 13] n (fun g s12 s13 wr => ∃ (s : List Int) (ws : List (Int × Int)) (aw : Option Addr) (cw : Nat), s12 = .slice aw ws.length cw ∧ QE w w.heap.size wr s13 s ∧ SetOk l s ∧ look V s = some (g : Int) ∧ ws.length + g = n ∧ Hid (ws ++ planB (nbS l (calS l ms)) (dz (look V)) g s = xW) ∧ wr.ownsRow w.heap.size 65 3 (.slice aw ws.length cw) ws.length (ws.flatMap encW) ∧ Row wr D 3 (nums (dA l N V)) ∧ Gr w wr)
    case atStart => exact ⟨f, [], none, 0, rfl, ⟨af, cf, by rw [LF.out], .inl SF.out⟩, FO.out, HX.out, by simp, by rw [List.nil_append]; exact PL0, World.ownsRow_nil _ _ _ _, R3.out, G3.out⟩
    case round =>
      clear R3 G3 PL0
      obtain ⟨s, ws, aw, cw, rfl, hq, hs, hx, hlen, hpl, hown, hr, hg⟩ := hrel
      obtain ⟨A, cx, rfl, hsl⟩ := hq.sl hg (setOk_wide CK.out hs)
      have HQ := Lib.hid hq
      have HS := Lib.hid hs
      have HXs := Lib.hid hx
      have HSL := Lib.hid hsl
      have OW := Lib.hid hown
      have HR := Lib.hid hr
      have HG := Lib.hid hg
      have LEN := Lib.hid hlen
      have LS := Lib.hid hs.1
      have IA : Hid (Calls Tryz.prog 24 #[.slice A l.length cx, .slice at' l.length ct] wr (Grows wr (.bool (decide (s = t))))) := Lib.hid (by
        have := ints_any s t A at' cx ct wr hsl (ST.out.giI hg) (by rw [hs.1]; unfold Fit; omega) (by rw [LT.out]; unfold Fit; omega)
        rwa [hs.1, LT.out] at this)
      cases gk with
      | zero =>
        have es : s = t := DO.out.dist.only s (by rw [hx]; rfl)
        have PL := Lib.hid hpl.out
        rw [decide_eq_true es] at IA
        rw [LS.out]
        clear hq hs hx hsl hown hr hg hlen hpl es
        go_wp2_with fail
        refine IA.out.mono ?_
        rintro e w6 ⟨rfl, hg6⟩
        have G6 := Lib.hid (HG.out.trans hg6)
        have O6 := Lib.hid (Gr.owns OW.out hg6)
        clear hg6
        go_wp2_with fail
        go_ret2
        have ew : ws = xW := by have := PL.out; simpa [planB] using this
        subst ew
        obtain ⟨a, c, e, hW⟩ := writesH_at (Nat.le_refl _) O6.out (wide_ws CK.out WW.out)
        cases e
        rw [e0.out.1]
        exact ⟨aw, cw, rfl, hW, G6.out⟩
      | succ g =>
        have es : s ≠ t := fun q => by
          subst q
          have := DO.out.dist.zero
          rw [hx] at this
          injection this with this
          omega
        rw [decide_eq_false es] at IA
        have STP := Lib.hid (fun W (hW : Gr wr W) => step_any l (calS l ms) V t s ((g + 1 : Nat) : Int) al A cl cx D W (clks_gr HCL.out (hg.trans hW)) CK.out (hsl.giI hW) KO.out DO.out hx (by omega) (by omega) (by rw [EN.out]; exact hr.gr hW))
        rw [EN.out, hs.1] at STP
        have PR1 := Lib.hid (fun tt (q : (nbS l (calS l ms) s).find? (nearer V s) = some tt) => plan_round DO.out hx q)
        have LEN2 : ws.length ≤ 4096 := by omega
        rw [LS.out]
        clear hq hs hx hsl hown hr hg hlen es
        go_wp2_with fail
        refine IA.out.mono ?_
        rintro e w6 ⟨rfl, hg6⟩
        have H6 := Lib.hid hg6
        clear hg6 IA
        go_wp2_with fail
        refine (STP.out w6 H6.out).mono ?_
        rintro e w7 ⟨u, v, B, cB, rfl, hfd, hul, hvk, hrow, hBB, hg7⟩
        obtain ⟨pn1, pn2⟩ := PR1.out _ hfd
        have PN1 := Lib.hid pn1
        have PN2 := Lib.hid pn2
        have H7 := Lib.hid (H6.out.trans hg7)
        have HROW := Lib.hid hrow
        have WRB : Hid (wr.heap.size ≤ B) := Lib.hid (by have := H6.out.size; omega)
        have SOX : Hid (SetOk l (s.set u (v : Int))) := Lib.hid (HS.out.set hul (by omega) hvk)
        have UL := Lib.hid hul
        clear pn1 pn2 hfd hrow hBB hg7 STP PR1 hul hvk
        obtain ⟨W8, hW8⟩ : ∃ W8 : World, Hid (W8 = (w7.alloc (.cells #[.int .i64 1, .int .i64 u, .int .i64 v] 65)).alloc (.cells #[.int .i64 1, .int .i64 u, .int .i64 v] 65)) := ⟨_, Lib.hid rfl⟩
        obtain ⟨N8, hN8⟩ : ∃ N8 : Nat, Hid (w7.heap.size + 1 = N8) := ⟨_, Lib.hid rfl⟩
        have H8 : Hid (Gr wr W8) := Lib.hid (by rw [hW8.out]; exact (H7.out.alloc _).alloc _)
        have O8 := Lib.hid (Gr.owns OW.out H8.out)
        have B8 : Hid (RowS W8 B 3 (nums (s.set u (v : Int)))) := Lib.hid (by rw [hW8.out]; exact HROW.out.gr (((Gr.refl _).alloc _).alloc _))
        have CC : Hid (∀ j x, ([.int .i64 1, .int .i64 u, .int .i64 v] : List Value)[j]? = some x → W8.cell? ((⟨N8, 0, none⟩ : Addr).add j) = some x) := Lib.hid (by
          have := row_cells (Row.new (w7.alloc (.cells #[.int .i64 1, .int .i64 u, .int .i64 v] 65)) #[.int .i64 1, .int .i64 u, .int .i64 v] 65)
          have e : (w7.alloc (.cells #[.int .i64 1, .int .i64 u, .int .i64 v] 65)).heap.size = w7.heap.size + 1 := by simp
          rw [← hW8.out, e, hN8.out] at this
          exact this)
        have ONE : Hid (∀ x ∈ ([.int .i64 1, .int .i64 u, .int .i64 v] : List Value), x.oneCell' = true) := Lib.hid (fun x hx => by simp only [List.mem_cons, List.not_mem_nil, or_false] at hx; rcases hx with rfl | rfl | rfl <;> rfl)
        have BS8 : Hid (w.heap.size ≤ W8.heap.size) := Lib.hid (by have := HG.out.size; have := H8.out.size; omega)
        go_wp2_with (first
          | (at_builtin; rw [← hW8.out, hN8.out]; refine wpList_append_gets _ rfl _ _ 56 rfl w.heap.size 65 i0 (.agg #[.int .i64 0, .int .i64 0, .int .i64 0]) 3 24 Tryz.underlying56 hi hz0 hz1 hz2 rfl (by decide) (.slice aw ws.length cw) ws.length (ws.flatMap encW) rfl O8.out (some ⟨N8, 0, none⟩) 1 1 [.int .i64 1, .int .i64 u, .int .i64 v] rfl ⟨rfl, fun _ => ⟨_, rfl, CC.out⟩⟩ ONE.out (by unfold maxLen; omega) (by omega) BS8.out ?_; intro v9 W9 hown hgrow _; obtain ⟨a9, c9, rfl⟩ := owns_slice hown; have O9 := Lib.hid hown; have H9 := Lib.hid hgrow; clear hown hgrow hW8)
          | fail)
        go_roundg g
        case rel =>
          refine ⟨s.set u (v : Int), ws ++ [((u : Int), (v : Int))], a9, c9, by simp, ⟨some ⟨B, 0, none⟩, cB, by rw [SOX.out.1], .inr ⟨B, rfl, ?_, ?_⟩⟩, SOX.out, PN2.out, ?_, ?_, ?_, ?_, ?_⟩
          · exact B8.out.grown H9.out (owns_apart O8.out B8.out (by decide))
          · have := HG.out.size; have := WRB.out; omega
          · have := LEN.out; simp; omega
          · refine Lib.hid ?_
            rw [List.append_assoc, List.singleton_append, ← PN1.out]
            exact hpl.out
          · have := O9.out
            simpa [encW] using this
          · exact (HR.out.gr H8.out).grown H9.out (owns_apart O8.out (HR.out.gr H8.out).s (by decide))
          · exact (HG.out.trans H8.out).grown H9.out (fun k e => (O8.out.lt k e).1)
        case measure => omega
theorem refPlanG_any (l : List Clk) (ms : List Lmt) (f t : List Int) (al am af at' : Option Addr) (cl cm cf ct : Nat) (w : World) (h : Env18 w l ms f t al am af at') :
    Calls Tryz.prog 36 #[.slice al l.length cl, .slice af f.length cf, .slice at' t.length ct, .slice am ms.length cm] w (GivesWH w (plW l ms f t) (plE l ms f t)) := by
  by_cases h0 : e18 l ms f t = 0
  · exact refPlan_ok l ms f t al am af at' cl cm cf ct w h h0
  · have BG := Lib.hid (refBegin18_any l ms f t al am af at' cl cm cf ct w h)
    obtain ⟨x1, x2⟩ := plE_err h0
    rw [x1, x2]
    obtain ⟨E, hE⟩ : ∃ E, e18 l ms f t = E := ⟨_, rfl⟩
    rw [hE] at BG h0 ⊢
    have hb : (E != 0) = true := by simp [h0]
    clear hE x1 x2 h h0
    go_enter Tryz.func36, Tryz.ntmps36
    go_wp2_with fail
    refine BG.out.mono ?_
    rintro e w1 ⟨rfl, hg⟩
    have G1 := Lib.hid hg
    clear hg
    go_wp2_with fail
    go_ret2
    exact .none G1.out
end Go.Proofs.YtenehghpmnajpaaGreatDoor


/-! Contracts for settings of no clocks: slices.Clone, and the reference's Next. -/
set_option linter.unusedVariables false
set_option linter.unusedSimpArgs false
namespace Go.Proofs.YtenehghpmnajpaaGreatDoor
open Go.RowKit
open Classical
end Go.Proofs.YtenehghpmnajpaaGreatDoor
/-! Every number is that of a setting; contracts of Count$1, Count. -/
set_option linter.unusedVariables false
set_option linter.unusedSimpArgs false
namespace Go.Proofs.YtenehghpmnajpaaGreatDoor
open Go.RowKit
open Classical
noncomputable def cntK (l : List Clk) (p : List Int → Bool) (k : Nat) : Nat := (List.range k).countP fun i => p (setN l i)
end Go.Proofs.YtenehghpmnajpaaGreatDoor
/-! Contracts of Solve$1, Solve. -/
set_option linter.unusedVariables false
set_option linter.unusedSimpArgs false
namespace Go.Proofs.YtenehghpmnajpaaGreatDoor
open Go.RowKit
open Classical
def LieS (BO BF n : Nat) (w0 : World) : Lie (Option (List Int)) := fun o w L => BO ∉ L ∧ BF ∉ L ∧ w0.heap.size ≤ BO ∧ w0.heap.size ≤ BF ∧ BO ≠ BF ∧ Row w BF 4 [.bool o.isSome] ∧
  match o with
  | none => Row w BO 22 [.slice none 0 0]
  | some s => ∃ B c, Row w BO 22 [.slice (some ⟨B, 0, none⟩) n c] ∧ RowS w B 3 (nums s) ∧ B ∉ L ∧ w0.heap.size ≤ B ∧ B ≠ BO ∧ B ≠ BF
end Go.Proofs.YtenehghpmnajpaaGreatDoor
/-! Plain: counts and least settings, also under other limits. No program in sight. -/
set_option linter.unusedVariables false
set_option linter.unusedSimpArgs false
namespace Go.Proofs.YtenehghpmnajpaaGreatDoor
open Go.RowKit
open Classical
def LeastS (l : List Clk) (ms : List Lmt) (s : List Int) : Prop := SetOk l s ∧ meetS l ms s = true ∧ ∀ s', SetOk l s' → num l s' < num l s → meetS l ms s' = false
end Go.Proofs.YtenehghpmnajpaaGreatDoor


/-! Contract of the refuter's branch. -/
set_option linter.unusedVariables false
set_option linter.unusedSimpArgs false
namespace Go.Proofs.YtenehghpmnajpaaGreatDoor
open Go.RowKit
open Classical
end Go.Proofs.YtenehghpmnajpaaGreatDoor
/-! Contract of tuning.Refute. -/
set_option linter.unusedVariables false
set_option linter.unusedSimpArgs false
namespace Go.Proofs.YtenehghpmnajpaaGreatDoor
open Go.RowKit
open Classical
end Go.Proofs.YtenehghpmnajpaaGreatDoor


/-! A refutation of the call's own, read as branches. -/
set_option linter.unusedVariables false
set_option linter.unusedSimpArgs false
namespace Go.Proofs.YtenehghpmnajpaaGreatDoor
open Go.RowKit
open Classical
end Go.Proofs.YtenehghpmnajpaaGreatDoor
/-! Plain: the example of chapter 17. No program in sight. -/
set_option linter.unusedVariables false
set_option linter.unusedSimpArgs false
namespace Go.Proofs.YtenehghpmnajpaaGreatDoor
open Go.RowKit
open Classical
end Go.Proofs.YtenehghpmnajpaaGreatDoor
/-! Contract of law17's two and awake. -/
set_option linter.unusedVariables false
set_option linter.unusedSimpArgs false
namespace Go.Proofs.YtenehghpmnajpaaGreatDoor
open Go.RowKit
open Classical
end Go.Proofs.YtenehghpmnajpaaGreatDoor


/-! Contract of bringupclocks.Limits. -/
set_option linter.unusedVariables false
set_option linter.unusedSimpArgs false
namespace Go.Proofs.YtenehghpmnajpaaGreatDoor
open Go.RowKit
open Classical
structure LI (b len base : Nat) (w : World) (ts : List CT) (g c : Nat) (R : List Rt) (v1 v2 : Value) (wr : World) : Prop where
  own : wr.ownsRow base 79 5 (.slice (some ⟨g, 0, none⟩) ts.length c) ts.length (ts.flatMap encC)
  rows : ChRows base wr ts
  r1 : wr.ownsRow w.heap.size 93 2 v1 ts.length (encP (R.map prR))
  r2 : wr.ownsRow w.heap.size 4 1 v2 ts.length (bools (onL R))
  mv : Mv b len w wr
section
variable {b len base : Nat} {w : World} {ts : List CT} {g c : Nat} {R : List Rt} {v1 v2 : Value} {wr w' : World}
end
end Go.Proofs.YtenehghpmnajpaaGreatDoor
/-! Contracts of the reference's Meets and Fits, where clocks, settings and limits are right (printed by wip/tools/mt.py). -/
set_option linter.unusedVariables false
set_option linter.unusedSimpArgs false
namespace Go.Proofs.YtenehghpmnajpaaGreatDoor
open Go.RowKit
open Classical
end Go.Proofs.YtenehghpmnajpaaGreatDoor

set_option linter.unusedVariables false
set_option linter.unusedSimpArgs false
namespace Go.Proofs.YtenehghpmnajpaaGreatDoor
open Go.RowKit
open Classical
theorem done_stay {done : Array Bool} {i j : Nat} (h : done.getD j false = true) : (done.setIfInBounds i true).getD j false = true := by
  by_cases e : i = j
  · subst e
    refine getD_set_same ?_
    unfold Array.getD at h
    split at h
    · assumption
    · cases h
  · simp only [Array.getD_eq_getD_getElem?, Array.getElem?_setIfInBounds] at h ⊢
    rw [if_neg e]; exact h
structure OSt (b n : Nat) (w w1 w2 : World) (ts : List CT) (g c : Nat) (ms : List Lmt) (am : Option Addr) (cm : Nat) (W : World) : Prop where
  own : W.ownsRow w1.heap.size 79 5 (.slice (some ⟨g, 0, none⟩) ts.length c) ts.length (ts.flatMap encC)
  rows : ChRows w1.heap.size W ts
  lims : W.ownsRow w2.heap.size 35 3 (.slice am ms.length cm) ms.length (ms.flatMap encM)
  tp : Tp W b n
  gw : Gr w W
section
variable {b n : Nat} {w w1 w2 W W' : World} {ts : List CT} {g c : Nat} {ms : List Lmt} {am : Option Addr} {cm : Nat}
end
abbrev BT := Brn × Option Addr × Nat
def blk (x : BT) : Option Nat := (Value.slice x.2.1 x.1.next.length x.2.2).ownBlock
structure NextOwn (base : Nat) (w : World) (xs : List BT) : Prop where
  own : ∀ x ∈ xs, w.ownsRow base 3 1 (.slice x.2.1 x.1.next.length x.2.2) x.1.next.length (nums x.1.next)
  one : xs.Pairwise fun x y => blk x ≠ blk y
def BrnWd (x : Brn) : Prop := Wide x.limit ∧ Wide x.clock ∧ x.next.length ≤ 1000 ∧ ∀ y ∈ x.next, Wide y
theorem mem_set_or {α : Type} {xs : List α} {i : Nat} {x y : α} (h : y ∈ xs.set i x) : y = x ∨ y ∈ xs := (List.mem_or_eq_of_mem_set h).symm
def GivesBent (b len : Nat) (w : World) (e : Ending) (w' : World) : Prop :=
  ∃ (bs : List Brn) (A : Option Addr) (cap : Nat), e = .returned (.slice A bs.length cap) ∧ SlOf 3 RBrn w' A bs ∧ bs.length ≤ 100000 ∧ Mv b len w w'
theorem gets_slI {w : World} {a : Option Addr} {xs : List Int} (h : SlOf 1 RI w a xs) : Gets w a xs.length 1 (nums xs) := by
  refine ⟨by simp [nums], fun h0 => ?_⟩
  obtain ⟨g, o, rfl, _⟩ := h 0 (by omega)
  refine ⟨_, rfl, fun j u hu => ?_⟩
  have hj : j < xs.length := by
    have := (List.getElem?_eq_some_iff.1 hu).1
    simpa [nums] using this
  obtain ⟨g', o', e, c, _⟩ := h j hj
  cases e
  simp only [nums, List.getElem?_map, List.getElem?_eq_getElem hj, Option.map_some] at hu
  injection hu with hu
  rw [← hu, Addr.add_lit]
  rw [Nat.mul_one] at c
  exact c
structure BSt (b len : Nat) (w : World) (xs : List BT) (g cap : Nat) (W : World) : Prop where
  own : W.ownsRow w.heap.size 81 3 (.slice (some ⟨g, 0, none⟩) xs.length cap) xs.length (xs.flatMap encN)
  nxt : NextOwn w.heap.size W xs
  wd : ∀ x ∈ xs, BrnWd x.1
  mv : Mv b len w W
section
variable {b len : Nat} {w W W' : World} {xs : List BT} {g cap : Nat}
end
theorem sameSetG_any (path : List (List Int)) (ax ay : Option Addr) (cx cy : Nat) (w : World) (hx : SlOf 1 RSet w ax path) (hy : SlOf 1 RSet w ay path) (hlen : ∀ s ∈ path, Fit s.length) (hn : path.length ≤ 5000) :
    Calls Tryz.prog 39 #[.slice ax path.length cx, .slice ay path.length cy] w (Grows w (.bool true)) := by
  have HX := Lib.hid hx
  have HY := Lib.hid hy
  have HL := Lib.hid hlen
  clear hx hy hlen
  have hlb : ((path.length : Int) != (path.length : Int)) = false := by simp
  go_enter Tryz.func39, Tryz.ntmps39
  go_wp2_with fail
  go_loopw [13] (fun i wr => ∃ k : Nat, k ≤ path.length ∧ i = .int .i64 k ∧ Gr w wr) (fun i _ => path.length - (intOf i).toNat)
  case atStart => exact ⟨0, Nat.zero_le _, rfl, Gr.refl _⟩
  case round =>
    obtain ⟨k, hk, rfl, hg⟩ := hrel
    have HG := Lib.hid hg
    by_cases hlt : k < path.length
    · obtain ⟨gx, ox, rfl, A1, c1, q1, s1⟩ := (HX.out.gr RSet.mono hg).one k hlt
      obtain ⟨gy, oy, rfl, A2, c2, q2, s2⟩ := (HY.out.gr RSet.mono hg).one k hlt
      have el := HL.out _ (List.getElem_mem hlt)
      have k2 : (k : Int) < path.length := by omega
      have IA : Hid (∀ W, Gr wr W → Calls Tryz.prog 24 #[.slice A1 path[k].length c1, .slice A2 path[k].length c2] W (Grows W (.bool true))) := Lib.hid (fun W hW => by
        have := ints_any path[k] path[k] A1 A2 c1 c2 W (s1.giI hW) (s2.giI hW) el el
        rwa [decide_eq_true rfl] at this)
      have h1 := has_of_cell q1
      have h2 := has_of_cell q2
      clear hg s1 s2 el
      go_wp2_with fail
      refine wp_region_grows (by kernel_rfl) (by kernel_rfl) ?_
      repeat (go_big_quiet_step (first | (go_at_call 24; exact calls_grows (IA.out _ ((Gr.refl _).xt _ _)))))
      refine wpQuiet_nil ?_
      rintro _ ⟨⟨O, d⟩, rfl⟩
      go_wp2_with fail
      go_roundw
      case rel => exact ⟨k + 1, by omega, by go_num, HG.out.xt _ _⟩
      case measure => simp [intOf]; omega
    · go_wp2_with fail
      go_ret
      exact ⟨rfl, HG.out⟩
structure ST where
  a : Option Addr
  c : Nat
  s : List Int
instance : Inhabited ST := ⟨⟨none, 0, []⟩⟩
def encS (t : ST) : Value := .slice t.a t.s.length t.c
def StAt (lo : Nat) (w : World) (ts : List ST) : Prop := ∀ t ∈ ts, SlOf 1 (HiR lo RI) w t.a t.s
theorem intsH_gr {lo : Nat} {w W : World} {a : Option Addr} {xs : List Int} (h : SlOf 1 (HiR lo RI) w a xs) (hg : Gr w W) : SlOf 1 (HiR lo RI) W a xs := SlOf.gr (HiR.mono RI.mono') h hg
theorem StAt.gr {lo : Nat} {w W : World} {ts : List ST} (h : StAt lo w ts) (hg : Gr w W) : StAt lo W ts := fun t ht => intsH_gr (h t ht) hg
theorem StAt.mv {lo tb len : Nat} {w W : World} {ts : List ST} (h : StAt lo w ts) (hb : tb < lo) (m : Mv tb len w W) : StAt lo W ts := fun t ht => intsH_mv (h t ht) hb m
theorem intsH_keep {lo : Nat} {w : World} {ao : Option Addr} {xs : List Int} {a : Addr} {v v' : Value} (h : SlOf 1 (HiR lo RI) w ao xs) (c : w.cell? a = some v) (hv : ∀ k x, v ≠ .int k x) : SlOf 1 (HiR lo RI) (w.setCell a v') ao xs := fun k hk => by
  obtain ⟨b, o, rfl, hl, q⟩ := h k hk
  refine ⟨b, o, rfl, hl, ?_, q.2⟩
  rw [World.cell?_setCell_other, q.1]
  intro e
  rw [e, q.1] at c
  cases c
  exact hv _ _ rfl
theorem sets_choose {lo : Nat} {w : World} {a : Option Addr} {cs : List (List Int)} (h : SetsH lo w a cs) : ∃ ts : List ST, ts.map (·.s) = cs ∧ StAt lo w ts ∧ Gets w a cs.length 1 (ts.map encS) := by
  have each : ∀ i, i < cs.length → ∃ t : ST, cs[i]? = some t.s ∧ (∃ b o, a = some ⟨b, o, none⟩ ∧ w.cell? ⟨b, o + i, none⟩ = some (encS t)) ∧ SlOf 1 (HiR lo RI) w t.a t.s := by
    intro i hi
    obtain ⟨b, o, e, _, a', c', h1, h2⟩ := h i hi
    rw [Nat.mul_one] at h1
    exact ⟨⟨a', c', cs[i]⟩, by rw [List.getElem?_eq_getElem hi], ⟨b, o, e, h1⟩, h2⟩
  obtain ⟨f, hf⟩ := Go.Deep.choose_lt each
  refine ⟨(List.range cs.length).map f, ?_, ?_, ?_, ?_⟩
  · refine List.ext_getElem (by simp) (fun i h1 h2 => ?_)
    have := (hf i h2).1
    rw [List.getElem?_eq_getElem h2] at this
    simp only [List.getElem_map, List.getElem_range]
    exact (Option.some.inj this).symm
  · intro t ht
    obtain ⟨i, hi, rfl⟩ := List.mem_map.1 ht
    exact (hf i (List.mem_range.1 hi)).2.2
  · simp
  · intro h0
    obtain ⟨b, o, e, _⟩ := (hf 0 (by omega)).2.1
    refine ⟨⟨b, o, none⟩, e, fun j u hu => ?_⟩
    have hj : j < cs.length := by
      obtain ⟨q, _⟩ := List.getElem?_eq_some_iff.1 hu
      simpa using q
    obtain ⟨b', o', e', hc⟩ := (hf j hj).2.1
    rw [e] at e'
    cases e'
    rw [List.getElem?_map, List.getElem?_map, List.getElem?_range hj] at hu
    simp only [Option.map_some, Option.some.injEq] at hu
    rw [← hu]
    rw [Addr.add_lit]; exact hc
theorem sts_sets {lo g : Nat} {w : World} {ts : List ST} (hs : StAt lo w ts) (hc : ∀ j u, (ts.map encS)[j]? = some u → w.cell? ⟨g, j, none⟩ = some u) : SlOf 1 RSet w (some ⟨g, 0, none⟩) (ts.map (·.s)) := by
  intro k hk
  have hk2 : k < ts.length := by simpa using hk
  refine ⟨g, 0, rfl, ?_⟩
  simp only [List.getElem_map]
  refine ⟨ts[k].a, ts[k].c, ?_, (hs _ (List.getElem_mem hk2)).lo⟩
  rw [Nat.zero_add, Nat.mul_one]
  exact hc k _ (by rw [List.getElem?_map, List.getElem?_eq_getElem hk2]; rfl)
def GivesBentS (b len : Nat) (w : World) (e : Ending) (w' : World) : Prop :=
  ∃ (cs : List (List Int)) (a : Option Addr) (c : Nat), e = .returned (.slice a cs.length c) ∧ SlOf 1 RSet w' a cs ∧ cs.length ≤ 6000 ∧ (∀ s ∈ cs, s.length ≤ 1000) ∧ Mv b len w w'
structure BsSt (b len lo : Nat) (w : World) (ts : List ST) (v : Value) (W : World) : Prop where
  own : W.ownsRow w.heap.size 22 1 v ts.length (ts.map encS)
  sts : StAt lo W ts
  lens : ∀ t ∈ ts, t.s.length ≤ 1000
  mv : Mv b len w W
section
variable {b len lo : Nat} {w W W' : World} {ts : List ST} {v : Value} {g n cap : Nat}
theorem BsSt.mvd (h : BsSt b len lo w ts v W) (hb : b < lo) (hw : b < w.heap.size) (m : Mv b len W W') : BsSt b len lo w ts v W' := ⟨m.owns h.own hw, h.sts.mv hb m, h.lens, h.mv.trans hw m⟩
theorem BsSt.grd (h : BsSt b len lo w ts v W) (hg : Gr W W') : BsSt b len lo w ts v W' := ⟨Gr.owns h.own hg, h.sts.gr hg, h.lens, h.mv.gr hg⟩
theorem BsSt.at (h : BsSt b len lo w ts (.slice (some ⟨g, 0, none⟩) n cap) W) {k : Nat} (hk : k < ts.length) : W.cell? ⟨g, k, none⟩ = some (encS ts[k]) ∧ W.frozen? ⟨g, k, none⟩ = false ∧ Has W g := by
  obtain ⟨g', cap', e, _, _, hc⟩ := owns_cell h.own (by omega)
  have eg : n = ts.length := by cases e; rfl
  subst eg
  cases e
  have := owns_free h.own k
  refine ⟨?_, this.1, this.2⟩
  rw [hc k (by omega), List.getElem?_map, List.getElem?_eq_getElem hk]
  rfl
theorem BsSt.base (h : BsSt b len lo w ts (.slice (some ⟨g, 0, none⟩) n cap) W) (h0 : 0 < ts.length) : w.heap.size ≤ g ∧ ts.length ≤ cap ∧ n = ts.length := by
  obtain ⟨g', cap', e, h1, h2, _⟩ := owns_cell h.own h0
  cases e
  exact ⟨h2, h1, rfl⟩
theorem BsSt.put (h : BsSt b len lo w ts (.slice (some ⟨g, 0, none⟩) n cap) W) {k : Nat} (hk : k < ts.length) (t : ST) (ht : SlOf 1 (HiR lo RI) W t.a t.s) (hl : t.s.length ≤ 1000) : BsSt b len lo w (ts.set k t) (.slice (some ⟨g, 0, none⟩) n cap) (W.setCell ⟨g, k, none⟩ (encS t)) := by
  obtain ⟨hB, _, hn⟩ := h.base (by omega)
  subst hn
  have hc := (h.at hk).1
  have nk : ∀ (kk : IntKind) (x : Int), encS ts[k] ≠ .int kk x := fun _ _ e => by cases e
  refine ⟨?_, fun u hu => ?_, fun u hu => ?_, h.mv.setc hB⟩
  · rw [List.length_set, List.map_set]
    exact owns_put h.own (by omega) _
  · rcases List.mem_or_eq_of_mem_set hu with hu | rfl
    · exact intsH_keep (h.sts u hu) hc nk
    · exact intsH_keep ht hc nk
  · rcases List.mem_or_eq_of_mem_set hu with hu | rfl
    · exact h.lens u hu
    · exact hl
theorem BsSt.gives (h : BsSt b len lo w ts (.slice (some ⟨g, 0, none⟩) n cap) W) (h0 : 0 < ts.length) (hl : ts.length ≤ 6000) : GivesBentS b len w (.returned (.slice (some ⟨g, 0, none⟩) n cap)) W := by
  obtain ⟨_, _, hn⟩ := h.base h0
  refine ⟨ts.map (·.s), some ⟨g, 0, none⟩, cap, by rw [List.length_map, hn], sts_sets h.sts (fun j u hu => ?_), by rw [List.length_map]; exact hl, fun s hs => ?_, h.mv⟩
  · have hj : j < ts.length := by
      obtain ⟨q, _⟩ := List.getElem?_eq_some_iff.1 hu
      simpa using q
    rw [(h.at hj).1]
    rw [List.getElem?_map, List.getElem?_eq_getElem hj] at hu
    exact hu
  · obtain ⟨t, ht, rfl⟩ := List.mem_map.1 hs
    exact h.lens t ht
end
section
variable {P : Program} (w : World)
theorem run_append_cut (t ty e : TypeId) (i : TypeInfo) (z : Value) (bytes : Nat) (ht : P.underlying t = some (.slice e)) (hi : P.info? e = some i) (hz : i.zero = some z) (hs : i.size = 1) (hb : i.bytes = bytes) (hzs : z.cells.size = 1)
    (g k : Nat) (olds : List Value) (hlo : olds.length = k) (holds : ∀ j u, olds[j]? = some u → w.cell? ⟨g, j, none⟩ = some u) (A : Option Addr) (m c : Nat) (hmc : m ≤ c) (news : List Value) (hg : Gets w A m 1 news) (h63 : k + m ≤ maxLen) (hbytes : (k + m) * bytes ≤ 140737488355328) :
    ∃ g' c' w', (Builtin.append_ #[t, t] ty #[.slice (some ⟨g, 0, none⟩) k k, .slice A m c]).run P w = .ok (.slice (some ⟨g', 0, none⟩) (k + m) c') w' ∧ (∀ j u, (olds ++ news)[j]? = some u → w'.cell? ⟨g', j, none⟩ = some u) ∧ Gr w w' := by
  have holds' : ∀ j u, olds[j]? = some u → w.cell? ((⟨g, 0, none⟩ : Addr).add j) = some u := fun j u hu => by rw [Addr.add_lit, Nat.zero_add]; exact holds j u hu
  by_cases hm : m = 0
  · subst hm
    have : news = [] := List.eq_nil_of_length_eq_zero (by have := hg.1; omega)
    subst this
    refine ⟨g, k, w, ?_, by simpa using holds, Gr.refl _⟩
    cases A with
    | none => simp [Builtin.append_, run_underlying ht, sizeOf, typeInfo, hi, Builtin.lenOf, Builtin.firstCells, storeCells]
    | some ad =>
      have h0 := run_loadCells_list (P := P) (w := w) ad [] (fun j v h => by simp at h)
      simp only [List.length_nil] at h0
      simp [Builtin.append_, run_underlying ht, sizeOf, typeInfo, hi, Builtin.lenOf, Builtin.firstCells, storeCells, h0]
  · obtain ⟨ad, rfl, hc⟩ := hg.2 hm
    obtain ⟨v', w', q1, q2, q3⟩ := run_append_arg_grows (P := P) w t ty e i z 1 bytes ht hi hz hs hb hzs (by omega) ⟨g, 0, none⟩ k k olds (by omega) holds' ad m c news hg.1 hc (by omega) h63 hbytes
    obtain ⟨g', c', rfl, _, _, hcell⟩ := owns_cell q2 (by omega)
    refine ⟨g', c', w', q1, fun j u hu => ?_, (Gr.refl w).grown q3 (fun k e => by cases e)⟩
    obtain ⟨hj, _⟩ := List.getElem?_eq_some_iff.1 hu
    have hl := q2.1
    rw [hcell j (by omega), hu]
theorem wpList_append_cut {ops : Array Oper} {rest : List Oper} {o : Oper} {a : Act} {Q : Exit → Act → World → Prop} (hgd : o.guard = none) (s x : Operand) (t : TypeId)
    (ho : o.op = .call { callee := .builtin .append, args := #[s, x], argTypes := #[t, t] }) (e : TypeId) (i : TypeInfo) (z : Value) (bytes : Nat) (ht : P.underlying t = some (.slice e)) (hi : P.info? e = some i) (hz : i.zero = some z) (hs : i.size = 1) (hb : i.bytes = bytes) (hzs : z.cells.size = 1)
    (g k : Nat) (olds : List Value) (hv : a.eval s = .slice (some ⟨g, 0, none⟩) k k) (hlo : olds.length = k) (holds : ∀ j u, olds[j]? = some u → w.cell? ⟨g, j, none⟩ = some u) (A : Option Addr) (m c : Nat) (hx : a.eval x = .slice A m c) (hmc : m ≤ c) (news : List Value) (hg : Gets w A m 1 news) (h63 : k + m ≤ maxLen) (hbytes : (k + m) * bytes ≤ 140737488355328)
    (h : ∀ g' c' w', (∀ j u, (olds ++ news)[j]? = some u → w'.cell? ⟨g', j, none⟩ = some u) → Gr w w' → wpList P ops Q rest (a.put o.dst (.slice (some ⟨g', 0, none⟩) (k + m) c')) w') : wpList P ops Q (o :: rest) a w :=
  wpList_plain hgd fun _ hK => by
    obtain ⟨g', c', w', q1, q2, q3⟩ := run_append_cut (P := P) w t o.type e i z bytes ht hi hz hs hb hzs g k olds hlo holds A m c hmc news hg h63 hbytes
    unfold Oper.wp execOp
    simp only [ho, resolve, invoke, builtin, Sem.run_bind, Sem.run_pure, Result.andThen_ok, List.map_toArray, List.map_cons, List.map_nil, hv, hx, q1]
    exact hK _ _ (h g' c' w' q2 q3)
end
theorem BsSt.atv {b len lo : Nat} {w W : World} {ts : List ST} {g n cap : Nat} (h : BsSt b len lo w ts (.slice (some ⟨g, 0, none⟩) n cap) W) {k : Nat} {t : ST} (hk : ts[k]? = some t) : W.cell? ⟨g, k, none⟩ = some (.slice t.a t.s.length t.c) ∧ W.frozen? ⟨g, k, none⟩ = false ∧ Has W g := by
  obtain ⟨q, e⟩ := List.getElem?_eq_some_iff.1 hk
  have := h.at q
  rw [e] at this
  exact this
def swL (ts : List ST) (k : Nat) (vk v0 : ST) : Bool → Bool → List ST
  | false, false => ts
  | true, false => ts.set 0 vk
  | false, true => ts.set k v0
  | true, true => (ts.set 0 vk).set k v0
structure Sw6 (b len lo : Nat) (w0 : World) (ts : List ST) (g n cap k : Nat) (vk v0 : ST) (d : Array Bool) (w : World) : Prop where
  st : BsSt b len lo w0 (swL ts k vk v0 (d.getD 11 false) (d.getD 13 false)) (.slice (some ⟨g, 0, none⟩) n cap) w
  h0 : SlOf 1 (HiR lo RI) w v0.a v0.s
theorem Sw6.step {b len lo : Nat} {w0 : World} {ts : List ST} {g n cap k : Nat} {vk v0 : ST} {d : Array Bool} {w : World} {i : Nat} (h : Sw6 b len lo w0 ts g n cap k vk v0 d w) (h11 : i ≠ 11) (h13 : i ≠ 13) : Sw6 b len lo w0 ts g n cap k vk v0 (d.setIfInBounds i true) w :=
  ⟨by rw [getD_set_ne false h11, getD_set_ne false h13]; exact h.st, h.h0⟩
def bs6F (b len lo : Nat) (w0 wr : World) (ts : List ST) (g n cap k : Nat) (vk v0 : ST) (t23 t24 t25 t26 t27 t28 t29 t30 t31 t32 t33 t34 : Value) (d : Array Bool) (w : World) : Prop :=
  Sw6 b len lo w0 ts g n cap k vk v0 d w ∧ (d.getD 0 false = true → t23 = .slice (some ⟨g, 0, none⟩) n cap) ∧
  (d.getD 1 false = true → t24 = .slice (some ⟨g, 0, none⟩) n cap) ∧
  (d.getD 2 false = true → t25 = .int .i64 (k : Int)) ∧
  (d.getD 3 false = true → t26 = .slice (some ⟨g, 0, none⟩) n cap) ∧
  (d.getD 4 false = true → t27 = .int .i64 (k : Int)) ∧
  (d.getD 5 false = true → t28 = .pointer (some ⟨g, k, none⟩)) ∧
  (d.getD 6 false = true → t29 = .slice vk.a vk.s.length vk.c) ∧
  (d.getD 7 false = true → t30 = .slice (some ⟨g, 0, none⟩) n cap) ∧
  (d.getD 8 false = true → t31 = .pointer (some ⟨g, 0, none⟩)) ∧
  (d.getD 9 false = true → t32 = .slice v0.a v0.s.length v0.c) ∧
  (d.getD 10 false = true → t33 = .pointer (some ⟨g, 0, none⟩)) ∧
  (d.getD 11 false = true → (d.getD 6 false = true ∧ d.getD 9 false = true)) ∧
  (d.getD 12 false = true → t34 = .pointer (some ⟨g, k, none⟩)) ∧
  (d.getD 13 false = true → d.getD 11 false = true)
def bs6A (g n cap k : Nat) (t23 t24 t25 t26 t27 t28 t29 t30 t31 t32 t33 t34 s0 s1 s2 s3 s4 s7 s8 s9 s10 s11 s12 s13 s14 s15 s16 s17 s18 s19 s20 s21 s22 s35 s36 s37 s38 s39 s40 s41 s42 s43 s44 s45 s46 s47 s48 s49 s50 s51 s52 s53 s54 s55 s56 s57 s58 s59 s60 s61 s62 s63 s64 s65 s66 s67 s68 s69 s70 s71 s72 s73 s74 s75 s76 s77 s78 : Value) : Act := { tmps := #[s0, s1, s2, s3, s4, .slice (some ⟨g, 0, none⟩) n cap, .int .i64 (k : Int), s7, s8, s9, s10, s11, s12, s13, s14, s15, s16, s17, s18, s19, s20, s21, s22, t23, t24, t25, t26, t27, t28, t29, t30, t31, t32, t33, t34, s35, s36, s37, s38, s39, s40, s41, s42, s43, s44, s45, s46, s47, s48, s49, s50, s51, s52, s53, s54, s55, s56, s57, s58, s59, s60, s61, s62, s63, s64, s65, s66, s67, s68, s69, s70, s71, s72, s73, s74, s75, s76, s77, s78], defers := [] }
theorem bs6 {Q : Exit → Act → World → Prop} {b len lo : Nat} {w0 wr : World} {ts : List ST} {g n cap k : Nat} {vk v0 : ST}  {s0 s1 s2 s3 s4 s7 s8 s9 s10 s11 s12 s13 s14 s15 s16 s17 s18 s19 s20 s21 s22 s23 s24 s25 s26 s27 s28 s29 s30 s31 s32 s33 s34 s35 s36 s37 s38 s39 s40 s41 s42 s43 s44 s45 s46 s47 s48 s49 s50 s51 s52 s53 s54 s55 s56 s57 s58 s59 s60 s61 s62 s63 s64 s65 s66 s67 s68 s69 s70 s71 s72 s73 s74 s75 s76 s77 s78 : Value} (hS : BsSt b len lo w0 ts (.slice (some ⟨g, 0, none⟩) n cap) wr) (hvk : ts[k]? = some vk) (hv0 : ts[0]? = some v0) (hkn' : k < n) (hlen' : n = ts.length)
    (h' : ∀ t23 t24 t25 t26 t27 t28 t29 t30 t31 t32 t33 t34 wx, BsSt b len lo w0 ((ts.set 0 vk).set k v0) (.slice (some ⟨g, 0, none⟩) n cap) wx → Q .normal (bs6A g n cap k t23 t24 t25 t26 t27 t28 t29 t30 t31 t32 t33 t34 s0 s1 s2 s3 s4 s7 s8 s9 s10 s11 s12 s13 s14 s15 s16 s17 s18 s19 s20 s21 s22 s35 s36 s37 s38 s39 s40 s41 s42 s43 s44 s45 s46 s47 s48 s49 s50 s51 s52 s53 s54 s55 s56 s57 s58 s59 s60 s61 s62 s63 s64 s65 s66 s67 s68 s69 s70 s71 s72 s73 s74 s75 s76 s77 s78) wx) :
    (Code.region 6 (regIn 6 Tryz.f42) true).wp Tryz.prog Q { tmps := #[s0, s1, s2, s3, s4, .slice (some ⟨g, 0, none⟩) n cap, .int .i64 (k : Int), s7, s8, s9, s10, s11, s12, s13, s14, s15, s16, s17, s18, s19, s20, s21, s22, s23, s24, s25, s26, s27, s28, s29, s30, s31, s32, s33, s34, s35, s36, s37, s38, s39, s40, s41, s42, s43, s44, s45, s46, s47, s48, s49, s50, s51, s52, s53, s54, s55, s56, s57, s58, s59, s60, s61, s62, s63, s64, s65, s66, s67, s68, s69, s70, s71, s72, s73, s74, s75, s76, s77, s78], defers := [] } wr := by
  have HVK := PLift.up hvk
  have HV0 := PLift.up hv0
  have hkn := PLift.up hkn'
  have hlen := PLift.up hlen'
  have HS := PLift.up hS
  have HL0 : PLift (v0.s.length ≤ 1000) := PLift.up (by obtain ⟨q, e⟩ := List.getElem?_eq_some_iff.1 hv0; exact e ▸ hS.lens _ (List.getElem_mem q))
  have HI0 : PLift (SlOf 1 (HiR lo RI) wr v0.a v0.s) := PLift.up (by obtain ⟨q, e⟩ := List.getElem?_eq_some_iff.1 hv0; exact e ▸ hS.sts _ (List.getElem_mem q))
  clear hvk hv0 hkn' hlen' hS
  simp only [regIn, Tryz.f42, regOps, Option.bind_some, Option.getD_some, Nat.beq, cond_true, cond_false]
  refine wp_region_steps (fun done a w => ∃ t23 t24 t25 t26 t27 t28 t29 t30 t31 t32 t33 t34, a = bs6A g n cap k t23 t24 t25 t26 t27 t28 t29 t30 t31 t32 t33 t34 s0 s1 s2 s3 s4 s7 s8 s9 s10 s11 s12 s13 s14 s15 s16 s17 s18 s19 s20 s21 s22 s35 s36 s37 s38 s39 s40 s41 s42 s43 s44 s45 s46 s47 s48 s49 s50 s51 s52 s53 s54 s55 s56 s57 s58 s59 s60 s61 s62 s63 s64 s65 s66 s67 s68 s69 s70 s71 s72 s73 s74 s75 s76 s77 s78 ∧ bs6F b len lo w0 wr ts g n cap k vk v0 t23 t24 t25 t26 t27 t28 t29 t30 t31 t32 t33 t34 done w) (by kernel_rfl) (by kernel_rfl) ?_ ⟨?_, ?_, ?_, ?_, ?_, ?_, ?_, ?_, ?_, ?_, ?_, ?_, ?_, ?_, trivial⟩ ?_
  · exact ⟨s23, s24, s25, s26, s27, s28, s29, s30, s31, s32, s33, s34, rfl, ⟨HS.down.grd (Gr.refl _).drew, intsH_gr HI0.down (Gr.refl _).drew⟩, fun q => absurd q (by decide), fun q => absurd q (by decide), fun q => absurd q (by decide), fun q => absurd q (by decide), fun q => absurd q (by decide), fun q => absurd q (by decide), fun q => absurd q (by decide), fun q => absurd q (by decide), fun q => absurd q (by decide), fun q => absurd q (by decide), fun q => absurd q (by decide), fun q => absurd q (by decide), fun q => absurd q (by decide), fun q => absurd q (by decide)⟩
  · rintro done a w hsz hnot hdep ⟨t23, t24, t25, t26, t27, t28, t29, t30, t31, t32, t33, t34, rfl, gw, f0, f1, f2, f3, f4, f5, f6, f7, f8, f9, f10, f11, f12, f13⟩ K hK
    have hn : ¬ done.getD 0 false = true := by rw [getD_both hnot]; decide
    have HK := PLift.up hK
    clear hK 
    simp only [bs6A]
    go_simp
    have gg : Gr w w := Gr.refl _
    refine HK.down _ _ ⟨_, _, _, _, _, _, _, _, _, _, _, _, rfl, gw.step (by decide) (by decide), fun _ => rfl, kp f1, kp f2, kp f3, kp f4, kp f5, kp f6, kp f7, kp f8, kp f9, kp f10, fun q => (let h := f11 (done_old q (by decide)); ⟨done_stay h.1, done_stay h.2⟩), kp f12, fun q => done_stay (f13 (done_old q (by decide)))⟩
  · rintro done a w hsz hnot hdep ⟨t23, t24, t25, t26, t27, t28, t29, t30, t31, t32, t33, t34, rfl, gw, f0, f1, f2, f3, f4, f5, f6, f7, f8, f9, f10, f11, f12, f13⟩ K hK
    have hn : ¬ done.getD 1 false = true := by rw [getD_both hnot]; decide
    have HK := PLift.up hK
    clear hK 
    simp only [bs6A]
    go_simp
    have gg : Gr w w := Gr.refl _
    refine HK.down _ _ ⟨_, _, _, _, _, _, _, _, _, _, _, _, rfl, gw.step (by decide) (by decide), kp f0, fun _ => rfl, kp f2, kp f3, kp f4, kp f5, kp f6, kp f7, kp f8, kp f9, kp f10, fun q => (let h := f11 (done_old q (by decide)); ⟨done_stay h.1, done_stay h.2⟩), kp f12, fun q => done_stay (f13 (done_old q (by decide)))⟩
  · rintro done a w hsz hnot hdep ⟨t23, t24, t25, t26, t27, t28, t29, t30, t31, t32, t33, t34, rfl, gw, f0, f1, f2, f3, f4, f5, f6, f7, f8, f9, f10, f11, f12, f13⟩ K hK
    have hn : ¬ done.getD 2 false = true := by rw [getD_both hnot]; decide
    have HK := PLift.up hK
    clear hK 
    simp only [bs6A]
    go_simp
    have gg : Gr w w := Gr.refl _
    refine HK.down _ _ ⟨_, _, _, _, _, _, _, _, _, _, _, _, rfl, gw.step (by decide) (by decide), kp f0, kp f1, fun _ => rfl, kp f3, kp f4, kp f5, kp f6, kp f7, kp f8, kp f9, kp f10, fun q => (let h := f11 (done_old q (by decide)); ⟨done_stay h.1, done_stay h.2⟩), kp f12, fun q => done_stay (f13 (done_old q (by decide)))⟩
  · rintro done a w hsz hnot hdep ⟨t23, t24, t25, t26, t27, t28, t29, t30, t31, t32, t33, t34, rfl, gw, f0, f1, f2, f3, f4, f5, f6, f7, f8, f9, f10, f11, f12, f13⟩ K hK
    have hn : ¬ done.getD 3 false = true := by rw [getD_both hnot]; decide
    have HK := PLift.up hK
    clear hK 
    simp only [bs6A]
    go_simp
    have gg : Gr w w := Gr.refl _
    refine HK.down _ _ ⟨_, _, _, _, _, _, _, _, _, _, _, _, rfl, gw.step (by decide) (by decide), kp f0, kp f1, kp f2, fun _ => rfl, kp f4, kp f5, kp f6, kp f7, kp f8, kp f9, kp f10, fun q => (let h := f11 (done_old q (by decide)); ⟨done_stay h.1, done_stay h.2⟩), kp f12, fun q => done_stay (f13 (done_old q (by decide)))⟩
  · rintro done a w hsz hnot hdep ⟨t23, t24, t25, t26, t27, t28, t29, t30, t31, t32, t33, t34, rfl, gw, f0, f1, f2, f3, f4, f5, f6, f7, f8, f9, f10, f11, f12, f13⟩ K hK
    have hn : ¬ done.getD 4 false = true := by rw [getD_both hnot]; decide
    have HK := PLift.up hK
    clear hK 
    simp only [bs6A]
    go_simp
    have gg : Gr w w := Gr.refl _
    refine HK.down _ _ ⟨_, _, _, _, _, _, _, _, _, _, _, _, rfl, gw.step (by decide) (by decide), kp f0, kp f1, kp f2, kp f3, fun _ => rfl, kp f5, kp f6, kp f7, kp f8, kp f9, kp f10, fun q => (let h := f11 (done_old q (by decide)); ⟨done_stay h.1, done_stay h.2⟩), kp f12, fun q => done_stay (f13 (done_old q (by decide)))⟩
  · rintro done a w hsz hnot hdep ⟨t23, t24, t25, t26, t27, t28, t29, t30, t31, t32, t33, t34, rfl, gw, f0, f1, f2, f3, f4, f5, f6, f7, f8, f9, f10, f11, f12, f13⟩ K hK
    have hn : ¬ done.getD 5 false = true := by rw [getD_both hnot]; decide
    have d3 := hdep 3 (by kernel_rfl)
    have d4 := hdep 4 (by kernel_rfl)
    obtain rfl := f3 d3
    obtain rfl := f4 d4
    have k2 : (k : Int) < n := by have := hkn.down; omega
    have HK := PLift.up hK
    clear hK d3 d4
    simp only [bs6A]
    go_simp
    have gg : Gr w w := Gr.refl _
    refine HK.down _ _ ⟨_, _, _, _, _, _, _, _, _, _, _, _, rfl, gw.step (by decide) (by decide), kp f0, kp f1, kp f2, kp f3, kp f4, fun _ => rfl, kp f6, kp f7, kp f8, kp f9, kp f10, fun q => (let h := f11 (done_old q (by decide)); ⟨done_stay h.1, done_stay h.2⟩), kp f12, fun q => done_stay (f13 (done_old q (by decide)))⟩
  · rintro done a w hsz hnot hdep ⟨t23, t24, t25, t26, t27, t28, t29, t30, t31, t32, t33, t34, rfl, gw, f0, f1, f2, f3, f4, f5, f6, f7, f8, f9, f10, f11, f12, f13⟩ K hK
    have hn : ¬ done.getD 6 false = true := by rw [getD_both hnot]; decide
    have d5 := hdep 5 (by kernel_rfl)
    obtain rfl := f5 d5
    have n11 : done.getD 11 false = false := by
      cases e : done.getD 11 false with
      | false => rfl
      | true => exact absurd ((f11 e).1) hn
    have n13 : done.getD 13 false = false := by
      cases e : done.getD 13 false with
      | false => rfl
      | true => exact absurd ((f11 (f13 e)).1) hn
    have S0 : BsSt b len lo w0 ts (.slice (some ⟨g, 0, none⟩) n cap) w := by have := gw.st; rwa [n11, n13] at this
    obtain ⟨c0, cf, ch⟩ := S0.atv HVK.down
    clear S0 n11 n13 cf
    have HK := PLift.up hK
    clear hK d5
    simp only [bs6A]
    go_simp
    have gg : Gr w w := Gr.refl _
    refine HK.down _ _ ⟨_, _, _, _, _, _, _, _, _, _, _, _, rfl, gw.step (by decide) (by decide), kp f0, kp f1, kp f2, kp f3, kp f4, kp f5, fun _ => rfl, kp f7, kp f8, kp f9, kp f10, fun q => (let h := f11 (done_old q (by decide)); ⟨done_stay h.1, done_stay h.2⟩), kp f12, fun q => done_stay (f13 (done_old q (by decide)))⟩
  · rintro done a w hsz hnot hdep ⟨t23, t24, t25, t26, t27, t28, t29, t30, t31, t32, t33, t34, rfl, gw, f0, f1, f2, f3, f4, f5, f6, f7, f8, f9, f10, f11, f12, f13⟩ K hK
    have hn : ¬ done.getD 7 false = true := by rw [getD_both hnot]; decide
    have HK := PLift.up hK
    clear hK 
    simp only [bs6A]
    go_simp
    have gg : Gr w w := Gr.refl _
    refine HK.down _ _ ⟨_, _, _, _, _, _, _, _, _, _, _, _, rfl, gw.step (by decide) (by decide), kp f0, kp f1, kp f2, kp f3, kp f4, kp f5, kp f6, fun _ => rfl, kp f8, kp f9, kp f10, fun q => (let h := f11 (done_old q (by decide)); ⟨done_stay h.1, done_stay h.2⟩), kp f12, fun q => done_stay (f13 (done_old q (by decide)))⟩
  · rintro done a w hsz hnot hdep ⟨t23, t24, t25, t26, t27, t28, t29, t30, t31, t32, t33, t34, rfl, gw, f0, f1, f2, f3, f4, f5, f6, f7, f8, f9, f10, f11, f12, f13⟩ K hK
    have hn : ¬ done.getD 8 false = true := by rw [getD_both hnot]; decide
    have d7 := hdep 7 (by kernel_rfl)
    obtain rfl := f7 d7
    have k2 : (0 : Int) < n := by have := hkn.down; omega
    have k3 : 0 < n := by have := hkn.down; omega
    have HK := PLift.up hK
    clear hK d7
    simp only [bs6A]
    go_simp
    have gg : Gr w w := Gr.refl _
    refine HK.down _ _ ⟨_, _, _, _, _, _, _, _, _, _, _, _, rfl, gw.step (by decide) (by decide), kp f0, kp f1, kp f2, kp f3, kp f4, kp f5, kp f6, kp f7, fun _ => rfl, kp f9, kp f10, fun q => (let h := f11 (done_old q (by decide)); ⟨done_stay h.1, done_stay h.2⟩), kp f12, fun q => done_stay (f13 (done_old q (by decide)))⟩
  · rintro done a w hsz hnot hdep ⟨t23, t24, t25, t26, t27, t28, t29, t30, t31, t32, t33, t34, rfl, gw, f0, f1, f2, f3, f4, f5, f6, f7, f8, f9, f10, f11, f12, f13⟩ K hK
    have hn : ¬ done.getD 9 false = true := by rw [getD_both hnot]; decide
    have d8 := hdep 8 (by kernel_rfl)
    obtain rfl := f8 d8
    have n11 : done.getD 11 false = false := by
      cases e : done.getD 11 false with
      | false => rfl
      | true => exact absurd ((f11 e).2) hn
    have n13 : done.getD 13 false = false := by
      cases e : done.getD 13 false with
      | false => rfl
      | true => exact absurd ((f11 (f13 e)).2) hn
    have S0 : BsSt b len lo w0 ts (.slice (some ⟨g, 0, none⟩) n cap) w := by have := gw.st; rwa [n11, n13] at this
    obtain ⟨c0, cf, ch⟩ := S0.atv HV0.down
    clear S0 n11 n13 cf
    have HK := PLift.up hK
    clear hK d8
    simp only [bs6A]
    go_simp
    have gg : Gr w w := Gr.refl _
    refine HK.down _ _ ⟨_, _, _, _, _, _, _, _, _, _, _, _, rfl, gw.step (by decide) (by decide), kp f0, kp f1, kp f2, kp f3, kp f4, kp f5, kp f6, kp f7, kp f8, fun _ => rfl, kp f10, fun q => (let h := f11 (done_old q (by decide)); ⟨done_stay h.1, done_stay h.2⟩), kp f12, fun q => done_stay (f13 (done_old q (by decide)))⟩
  · rintro done a w hsz hnot hdep ⟨t23, t24, t25, t26, t27, t28, t29, t30, t31, t32, t33, t34, rfl, gw, f0, f1, f2, f3, f4, f5, f6, f7, f8, f9, f10, f11, f12, f13⟩ K hK
    have hn : ¬ done.getD 10 false = true := by rw [getD_both hnot]; decide
    have d0 := hdep 0 (by kernel_rfl)
    obtain rfl := f0 d0
    have k2 : (0 : Int) < n := by have := hkn.down; omega
    have k3 : 0 < n := by have := hkn.down; omega
    have HK := PLift.up hK
    clear hK d0
    simp only [bs6A]
    go_simp
    have gg : Gr w w := Gr.refl _
    refine HK.down _ _ ⟨_, _, _, _, _, _, _, _, _, _, _, _, rfl, gw.step (by decide) (by decide), kp f0, kp f1, kp f2, kp f3, kp f4, kp f5, kp f6, kp f7, kp f8, kp f9, fun _ => rfl, fun q => (let h := f11 (done_old q (by decide)); ⟨done_stay h.1, done_stay h.2⟩), kp f12, fun q => done_stay (f13 (done_old q (by decide)))⟩
  · rintro done a w hsz hnot hdep ⟨t23, t24, t25, t26, t27, t28, t29, t30, t31, t32, t33, t34, rfl, gw, f0, f1, f2, f3, f4, f5, f6, f7, f8, f9, f10, f11, f12, f13⟩ K hK
    have hn : ¬ done.getD 11 false = true := by rw [getD_both hnot]; decide
    have d10 := hdep 10 (by kernel_rfl)
    have d6 := hdep 6 (by kernel_rfl)
    have d9 := hdep 9 (by kernel_rfl)
    obtain rfl := f10 d10
    obtain rfl := f6 d6
    obtain rfl := f9 d9
    have D6 := PLift.up d6
    have D9 := PLift.up d9
    have n11 := getD_both hnot
    have n13 : done.getD 13 false = false := by
      cases e : done.getD 13 false with
      | false => rfl
      | true => exact absurd (f13 e) (by rw [n11]; decide)
    have S0 : BsSt b len lo w0 ts (.slice (some ⟨g, 0, none⟩) n cap) w := by have := gw.st; rwa [n11, n13] at this
    obtain ⟨c0, cf, ch⟩ := S0.atv HV0.down
    have P1 := PLift.up (S0.put (k := 0) (by have := hkn.down; have := hlen.down; omega) vk (by obtain ⟨q, e⟩ := List.getElem?_eq_some_iff.1 HVK.down; exact e ▸ S0.sts _ (List.getElem_mem q)) (by obtain ⟨q, e⟩ := List.getElem?_eq_some_iff.1 HVK.down; exact e ▸ S0.lens _ (List.getElem_mem q)))
    have P2 := PLift.up (intsH_keep (v' := encS vk) gw.h0 c0 (fun _ _ e => by cases e))
    have N13 := PLift.up n13
    have HSZ := PLift.up hsz
    clear S0 n11 n13
    have HK := PLift.up hK
    clear hK d10 d6 d9
    simp only [bs6A]
    go_simp
    refine HK.down _ _ ⟨_, _, _, _, _, _, _, _, _, _, _, _, rfl, ⟨by rw [getD_set_same (by rw [HSZ.down]; decide), getD_set_ne false (by decide), N13.down]; exact P1.down, P2.down⟩, kp f0, kp f1, kp f2, kp f3, kp f4, kp f5, kp f6, kp f7, kp f8, kp f9, kp f10, ?_, kp f12, fun q => done_stay (f13 (done_old q (by decide)))⟩
    exact fun _ => ⟨done_stay D6.down, done_stay D9.down⟩
  · rintro done a w hsz hnot hdep ⟨t23, t24, t25, t26, t27, t28, t29, t30, t31, t32, t33, t34, rfl, gw, f0, f1, f2, f3, f4, f5, f6, f7, f8, f9, f10, f11, f12, f13⟩ K hK
    have hn : ¬ done.getD 12 false = true := by rw [getD_both hnot]; decide
    have d1 := hdep 1 (by kernel_rfl)
    have d2 := hdep 2 (by kernel_rfl)
    obtain rfl := f1 d1
    obtain rfl := f2 d2
    have k2 : (k : Int) < n := by have := hkn.down; omega
    have HK := PLift.up hK
    clear hK d1 d2
    simp only [bs6A]
    go_simp
    have gg : Gr w w := Gr.refl _
    refine HK.down _ _ ⟨_, _, _, _, _, _, _, _, _, _, _, _, rfl, gw.step (by decide) (by decide), kp f0, kp f1, kp f2, kp f3, kp f4, kp f5, kp f6, kp f7, kp f8, kp f9, kp f10, fun q => (let h := f11 (done_old q (by decide)); ⟨done_stay h.1, done_stay h.2⟩), fun _ => rfl, fun q => done_stay (f13 (done_old q (by decide)))⟩
  · rintro done a w hsz hnot hdep ⟨t23, t24, t25, t26, t27, t28, t29, t30, t31, t32, t33, t34, rfl, gw, f0, f1, f2, f3, f4, f5, f6, f7, f8, f9, f10, f11, f12, f13⟩ K hK
    have hn : ¬ done.getD 13 false = true := by rw [getD_both hnot]; decide
    have d12 := hdep 12 (by kernel_rfl)
    have d9 := hdep 9 (by kernel_rfl)
    have d11 := hdep 11 (by kernel_rfl)
    obtain rfl := f12 d12
    obtain rfl := f9 d9
    have n13 := getD_both hnot
    have S1 : BsSt b len lo w0 (ts.set 0 vk) (.slice (some ⟨g, 0, none⟩) n cap) w := by have := gw.st; rwa [d11, n13] at this
    have kl : k < (ts.set 0 vk).length := by rw [List.length_set]; have := hkn.down; have := hlen.down; omega
    obtain ⟨c0, cf, ch⟩ := S1.at kl
    have P1 := PLift.up (S1.put (k := k) kl v0 gw.h0 HL0.down)
    have P2 := PLift.up (intsH_keep (v' := encS v0) gw.h0 c0 (fun _ _ e => by cases e))
    have D11 := PLift.up d11
    have HSZ := PLift.up hsz
    obtain ⟨vv, c1⟩ : ∃ vv, w.cell? ⟨g, k, none⟩ = some vv := ⟨_, c0⟩
    clear S1 n13 c0 kl
    have HK := PLift.up hK
    clear hK d12 d9
    simp only [bs6A]
    go_simp
    refine HK.down _ _ ⟨_, _, _, _, _, _, _, _, _, _, _, _, rfl, ⟨by rw [getD_set_ne false (by decide), getD_set_same (by rw [HSZ.down]; decide), D11.down]; exact P1.down, P2.down⟩, kp f0, kp f1, kp f2, kp f3, kp f4, kp f5, fun _ => rfl, kp f7, kp f8, kp f9, kp f10, fun q => (let h := f11 (done_old q (by decide)); ⟨done_stay h.1, done_stay h.2⟩), kp f12, ?_⟩
    exact fun _ => done_stay D11.down
  · rintro done a w hall ⟨t23, t24, t25, t26, t27, t28, t29, t30, t31, t32, t33, t34, rfl, gw, f0, f1, f2, f3, f4, f5, f6, f7, f8, f9, f10, f11, f12, f13⟩
    have q := gw.st
    rw [hall 11 (by decide), hall 13 (by decide)] at q
    exact h' _ _ _ _ _ _ _ _ _ _ _ _ w q
end Go.Proofs.YtenehghpmnajpaaGreatDoor
