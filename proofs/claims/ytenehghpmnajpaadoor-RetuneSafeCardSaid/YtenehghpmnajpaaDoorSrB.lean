/- Contract of the reference's States. -/
import Derived.Test.YtenehghpmnajpaaDoorSrA
import Derived.Deep.CutBlock
set_option linter.unusedVariables false
set_option linter.unusedSimpArgs false
namespace Go.Proofs.YtenehghpmnajpaaDoor
open Go.RowKit
open Classical

theorem newZ (d : Int) (h0 : 1 ≤ d) : newN 0 d = 0 ∧ newD 0 d = 1 := by
  have hg : (Int.gcd 0 d : Int) = d := by
    rw [Int.gcd_zero_left]; omega
  have h1 : d / d = 1 := Int.ediv_self (by omega)
  have ho : okNew 0 d = true := by
    unfold okNew
    rw [hg, h1]
    simp [h0]
    decide
  rw [newN, newD, if_pos ho, if_pos ho, hg, h1]
  simp
theorem over_off (k : Int) (h0 : 1 ≤ k) (h1 : k ≤ 64) : oN 0 1 k = 0 ∧ oD 0 1 k = 1 := by
  have hv := over_new 0 1 k (by omega) (by omega) h0
  have ho : okFac 0 1 k = true := by simp [okFac, h0, h1]; decide
  rw [oN, oD, if_pos ho, if_pos ho, ← hv.2.1, ← hv.2.2]
  exact newZ (1 * k) (by omega)
theorem times_off (k : Int) (h0 : 1 ≤ k) (h1 : k ≤ 64) : tN 0 1 k = 0 ∧ tD 0 1 k = 1 := by
  have ho : okFac 0 1 k = true := by simp [okFac, h0, h1]; decide
  have hg : (Int.gcd k 1 : Int) = 1 := by simp
  have hb : ¬ tmBig 0 1 k := by
    unfold tmBig
    have := Int.ediv_nonneg (a := 144115188075855872) (b := k / Int.gcd k 1) (by omega) (by rw [hg]; simp; omega)
    omega
  have h := tN_of hb ho
  rw [h.1, h.2, hg]
  simpa using newZ 1 (by omega)
/-- The cells of a list of rates, and whether each runs. -/
def onL (R : List Rt) : List Bool := R.map Option.isSome
/-- What the reference says of clocks with a setting. -/
def GivesStates (w : World) (l : List Clk) (s : List Int) (e : Ending) (w' : World) : Prop :=
  ∃ v1 v2, e = .returned (.tuple #[v1, v2]) ∧ w'.ownsRow w.heap.size 56 2 v1 l.length (encP ((rts l s).map prR)) ∧ w'.ownsRow w.heap.size 4 1 v2 l.length (bools (onL (rts l s))) ∧ Gr w w'
theorem encP_snoc (ps : List (Int × Int)) (p : Int × Int) : encP (ps ++ [p]) = encP ps ++ [.int .i64 p.1, .int .i64 p.2] := by simp [encP]
theorem infoBool : (Tryd.prog.info? 4).map (fun i => (i.zero, i.size, i.bytes)) = some (some (.bool false), 1, 1) := by kernel_rfl
theorem owns_two {w : World} {base base' e e' size size' n n' : Nat} {v v' : Value} {xs xs' : List Value} (h : w.ownsRow base e size v n xs) (h' : w.ownsRow base' e' size' v' n' xs') (hT : e ≠ e') : v'.ownBlock = none ∨ v'.ownBlock ≠ v.ownBlock := by
  obtain ⟨_, ⟨rfl, _⟩ | ⟨g', cap', cur', rfl, _, hg', _⟩⟩ := h'
  · exact .inl rfl
  · refine .inr fun q => ?_
    obtain ⟨_, ⟨rfl, _⟩ | ⟨g, cap, cur, rfl, _, hg, _⟩⟩ := h
    · cases q
    · have : g' = g := by simpa [Value.ownBlock] using q
      subst this
      rw [hg] at hg'
      injection hg' with hg'
      injection hg' with _ hg'
      exact hT hg'
theorem fac_range {c : Clk} {i : Nat} {k : Int} (hc : ClkOk c i) (h : c.kind = 2 ∨ c.kind = 3) (k0 : 0 ≤ k) (k1 : k < c.choices.length) : 1 ≤ chC c k ∧ chC c k ≤ 64 := by
  obtain ⟨hk', e'⟩ := ch_of k0 k1
  rcases hc.2.1 with ⟨h, _⟩ | ⟨_, _, _, hd⟩ | ⟨h, _⟩ | ⟨h, _⟩
  · omega
  · obtain ⟨_, d1, d2, _⟩ := hd _ hk'; rw [e']; exact ⟨d1, d2⟩
  · omega
  · omega
theorem step_2 {c : Clk} {x rn rd : Int} {pt : Rt} (h : c.kind = 2) (hp : (rn, rd) = prR pt) (x0 : 1 ≤ x) (x1 : x ≤ 64) : prR (stepP c x pt) = (oN rn rd x, oD rn rd x) ∧ (stepP c x pt).isSome = pt.isSome := by
  cases pt with
  | none =>
    simp only [prR, numR, denR, Prod.mk.injEq] at hp
    obtain ⟨rfl, rfl⟩ := hp
    have := over_off x x0 x1
    simp [stepP, prR, numR, denR, this.1, this.2]
  | some nd =>
    obtain ⟨n, d⟩ := nd
    simp only [prR, numR, denR, Prod.mk.injEq] at hp
    obtain ⟨rfl, rfl⟩ := hp
    simp [stepP, scaleR, h, prR, numR, denR]
theorem step_3 {c : Clk} {x rn rd : Int} {pt : Rt} (h : c.kind = 3) (hp : (rn, rd) = prR pt) (x0 : 1 ≤ x) (x1 : x ≤ 64) : prR (stepP c x pt) = (tN rn rd x, tD rn rd x) ∧ (stepP c x pt).isSome = pt.isSome := by
  cases pt with
  | none =>
    simp only [prR, numR, denR, Prod.mk.injEq] at hp
    obtain ⟨rfl, rfl⟩ := hp
    have := times_off x x0 x1
    simp [stepP, prR, numR, denR, this.1, this.2]
  | some nd =>
    obtain ⟨n, d⟩ := nd
    simp only [prR, numR, denR, Prod.mk.injEq] at hp
    obtain ⟨rfl, rfl⟩ := hp
    simp [stepP, scaleR, h, prR, numR, denR]
theorem step_4 {c : Clk} {x : Int} {pt : Rt} (h2 : c.kind ≠ 2) (h3 : c.kind ≠ 3) (h5 : c.kind = 5 → x ≠ 0) : stepP c x pt = pt := by
  cases pt with
  | none => rfl
  | some nd =>
    obtain ⟨n, d⟩ := nd
    have : ¬ (c.kind = 5 ∧ x = 0) := fun q => h5 q.1 q.2
    simp [stepP, scaleR, h2, h3, this]
theorem step_5 {c : Clk} {x : Int} {pt : Rt} (h5 : c.kind = 5) (hx : x = 0) : stepP c x pt = none := by
  cases pt with
  | none => rfl
  | some nd => simp [stepP, scaleR, h5, hx]
theorem rt_bounds {t : Nat} {pt : Rt} (h : RtOk t pt) : 0 ≤ (prR pt).1 ∧ (prR pt).1 ≤ 144115188075855872 ∧ 1 ≤ (prR pt).2 ∧ (prR pt).2 ≤ 16777216 := by
  cases pt with
  | none => simp [prR, numR, denR]
  | some nd =>
    obtain ⟨n, d⟩ := nd
    have v := valid_parts (h n d rfl).1
    simp only [prR, numR, denR]
    omega
set_option maxRecDepth 100000 in
set_option maxHeartbeats 4000000 in
theorem states_any (l : List Clk) (s : List Int) (al aS : Option Addr) (cl cs : Nat) (w : World) (h : SlOf 5 RClk w al l) (hs : SlOf 1 RI w aS s) (hc : cchk l = 0) (hset : SetOk l s) :
    Calls Tryd.prog 25 #[.slice al l.length cl, .slice aS s.length cs] w (GivesStates w l s) := by
  obtain ⟨nb, ok, pr, fs⟩ := cchk_zero hc
  have hl := small_len nb
  have hsl : s.length = l.length := hset.1
  have H := Lib.hid h
  have HS := Lib.hid hs
  have OK := Lib.hid ok
  have HT := Lib.hid hset
  have NB := Lib.hid nb
  have RO := Lib.hid (rts_ok_take ok fs hset)
  have HSL := Lib.hid hsl
  clear h hs ok hset hc nb pr fs
  obtain ⟨j0, hj, hy0, hy1, hy2⟩ := info_parts infoRate
  obtain ⟨i0, hi, hz0, hz1, hz2⟩ := info_parts infoBool
  rw [hsl]
  clear hsl
  go_enter Tryd.func25, Tryd.ntmps25
  go_wp2_with fail
  go_loopw [6, 7, 16] (fun s6 s7 i wr => ∃ (k : Nat) (a1 a2 : Option Addr) (c1 c2 : Nat), k ≤ l.length ∧ i = .int .i64 k ∧ s6 = .slice a1 k c1 ∧ s7 = .slice a2 k c2 ∧ wr.ownsRow w.heap.size 56 2 (.slice a1 k c1) k (encP ((rts (l.take k) (s.take k)).map prR)) ∧ wr.ownsRow w.heap.size 4 1 (.slice a2 k c2) k (bools (onL (rts (l.take k) (s.take k)))) ∧ Gr w wr) (fun _ _ i _ => l.length - (intOf i).toNat)
  case atStart => exact ⟨0, none, none, 0, 0, Nat.zero_le _, rfl, rfl, rfl, World.ownsRow_nil _ _ _ _, World.ownsRow_nil _ _ _ _, Gr.refl _⟩
  case round =>
    obtain ⟨k, a1, a2, c1', c2', hk, rfl, rfl, rfl, ho1, ho2, hg⟩ := hrel
    have O1 := Lib.hid ho1
    have O2 := Lib.hid ho2
    have HG := Lib.hid hg
    clear ho1 ho2 hg
    obtain ⟨wo, rfl⟩ : ∃ wo : World, wo = wr := ⟨_, rfl⟩
    by_cases hlt : k < l.length
    · have hls : k < s.length := by have := HSL.out; omega
      obtain ⟨k0, k1⟩ := HT.out.2 k hlt hls
      obtain ⟨_, hck⟩ := OK.out k hlt
      obtain ⟨fp, fc⟩ := small_at NB.out hlt
      have CK := Lib.hid hck
      obtain ⟨b, o, rfl, ⟨c0, _⟩, ⟨ap, cp, c1, c1l, c1f, sp⟩, ⟨ac, cc, c2, c2l, c2f, sc⟩, ⟨c3, _⟩, ⟨c4, _⟩⟩ := clks_gr H.out HG.out k hlt
      obtain ⟨bs, os, rfl, ⟨q1, y1⟩⟩ := (HS.out.giI HG.out).one k hls
      obtain ⟨hkk, e⟩ := ch_of k0 k1
      obtain ⟨bc, oc, rfl, ⟨q2, y2⟩⟩ := sc.one _ hkk
      rw [← e] at q2 y2
      obtain ⟨j, hj'⟩ : ∃ j : Nat, s[k] = j := ⟨_, (Int.toNat_of_nonneg k0).symm⟩
      obtain ⟨x, hx⟩ : ∃ x : Int, chC l[k] s[k] = x := ⟨_, rfl⟩
      rw [hx] at q2 y2
      have e1 : s[k].toNat = j := by omega
      rw [e1] at q2
      rw [hj'] at q1
      have j2 : (j : Int) < l[k].choices.length := by omega
      have l1 : (k : Int) < l.length := by omega
      have hx2 := has_of_cell q2
      have hx1 := has_of_cell q1
      have HX := Lib.hid hx
      have HJ := Lib.hid hj'
      have KK := Lib.hid (show 0 ≤ s[k] ∧ s[k] < l[k].choices.length from ⟨k0, k1⟩)
      have PAR := Lib.hid (fun W (hW : Gr wo W) => refParent_any l[k] k s[k] ap (some ⟨bc, oc, none⟩) cp cc W (sp.giI hW) (sc.giI hW) hck k0 k1 fp fc)
      rw [hj'] at PAR
      obtain ⟨p, hp⟩ : ∃ p, parC l[k] (j : Int) = p := ⟨_, rfl⟩
      rw [hp] at PAR
      have HP := Lib.hid hp
      unfold Wide at y2
      clear hck sp sc c1f c2f hkk e hx hj' e1 y1 k0 k1 hp
      go_wp2_with fail
      obtain ⟨BC, hBC⟩ : ∃ BC : Nat, Hid (wo.heap.size = BC) := ⟨_, Lib.hid rfl⟩
      obtain ⟨BR, hBR⟩ : ∃ BR : Nat, Hid (wo.heap.size + 1 = BR) := ⟨_, Lib.hid rfl⟩
      rw [hBR.out, hBC.out]
      obtain ⟨W3, hW3⟩ : ∃ W3 : World, Hid (W3 = (wo.alloc (.cells #[.int .i64 l[k].kind, .slice ap l[k].parents.length cp, .slice (some ⟨bc, oc, none⟩) l[k].choices.length cc, .int .i64 l[k].low, .int .i64 l[k].high] 28)).alloc (.cells #[.int .i64 0, .int .i64 1] 56)) := ⟨_, Lib.hid rfl⟩
      rw [← hW3.out]
      have g3 : Gr wo W3 := by rw [hW3.out]; exact ((Gr.refl _).alloc _).alloc _
      have RC : Hid (Row W3 BC 28 [.int .i64 l[k].kind, .slice ap l[k].parents.length cp, .slice (some ⟨bc, oc, none⟩) l[k].choices.length cc, .int .i64 l[k].low, .int .i64 l[k].high]) := Lib.hid (by rw [hW3.out, ← hBC.out]; exact (Row.new wo _ _).alloc _)
      have RR : Hid (Row W3 BR 56 [.int .i64 0, .int .i64 1]) := Lib.hid (by rw [hW3.out]; exact row_new' _ _ _ _ (by rw [← hBR.out]; simp))
      have G3 := Lib.hid (HG.out.trans g3)
      have P1 := Lib.hid (Gr.owns O1.out g3)
      have P2 := Lib.hid (Gr.owns O2.out g3)
      have br : Hid (w.heap.size ≤ BR) := Lib.hid (by have := HG.out.size; have := hBR.out; omega)
      have bcr : Hid (BC ≠ BR) := Lib.hid (by have := hBC.out; have := hBR.out; omega)
      have nown : Hid (∀ g, (Value.slice a1 k c1').ownBlock = some g → g < BR) := Lib.hid (fun g hgg => by have := (O1.out.lt g hgg).2; have := hBR.out; omega)
      have nown2 : Hid (∀ g, (Value.slice a2 k c2').ownBlock = some g → g < BR) := Lib.hid (fun g hgg => by have := (O2.out.lt g hgg).2; have := hBR.out; omega)
      have m0 := RC.out.cell 0 (by simp)
      have m1 := RC.out.cell 1 (by simp)
      have m2 := RC.out.cell 2 (by simp)
      have m3 := RC.out.cell 3 (by simp)
      have m4 := RC.out.cell 4 (by simp)
      have mh := RC.out.has
      simp only [List.getElem_cons_zero, List.getElem_cons_succ] at m0 m1 m2 m3 m4
      have q1' := cell_gr g3 q1
      have q2' := cell_gr g3 q2
      have hx1' := has_of_cell q1'
      have hx2' := has_of_cell q2'
      have PAR' : Hid (∀ W, Gr W3 W → Calls Tryd.prog 61 #[.agg #[.int .i64 l[k].kind, .slice ap l[k].parents.length cp, .slice (some ⟨bc, oc, none⟩) l[k].choices.length cc, .int .i64 l[k].low, .int .i64 l[k].high], .int .i64 j] W (Grows W (.int .i64 p))) := Lib.hid (fun W hW => PAR.out W (g3.trans hW))
      have lb1 : Hid (bs < BR ∧ bc < BR) := Lib.hid (by unfold Has at hx1 hx2; have := hBR.out; omega)
      have Q1 := Lib.hid q1'
      have Q2 := Lib.hid q2'
      clear hW3 hBC hBR O1 O2 HG PAR c0 c1 c2 c3 c4 q1 q2 hx1 hx2 g3
      refine wp_region_grows (by kernel_rfl) (by kernel_rfl) ?_
      repeat (go_big_quiet_step (first | (go_at_call 61; exact calls_grows (PAR'.out _ ((Gr.refl _).xt _ _)))))
      refine wpQuiet_nil ?_
      rintro _ ⟨⟨O, dd⟩, rfl⟩
      go_upto_if 29 with (fail)
      obtain ⟨W4, hW4⟩ : ∃ W4 : World, Hid (W4 = xt W3 O dd) := ⟨_, Lib.hid rfl⟩
      rw [← hW4.out]
      have g34 : Hid (Gr W3 W4) := Lib.hid (by rw [hW4.out]; exact (Gr.refl _).xt O dd)
      obtain ⟨pt, hpt⟩ : ∃ pt, (rts (l.take k) (s.take k)).getD p.toNat none = pt := ⟨_, rfl⟩
      have HPT := Lib.hid hpt
      have hlr : (rts (l.take k) (s.take k)).length = k := by rw [rts_len _ _ (by have := HSL.out; simp; omega)]; simp; omega
      have HLR := Lib.hid hlr
      clear hW4 hpt m0 m1 m2 m3 m4 mh q1' q2' hx1' hx2' PAR' hlr
      go_cut [11] (fun v wx => ∃ (on : Bool) (rn rd : Int), v = .bool on ∧ Row wx BR 56 [.int .i64 rn, .int .i64 rd] ∧ (l[k].kind ≠ 1 → (rn, rd) = prR pt ∧ on = pt.isSome) ∧ (l[k].kind = 1 → on = true) ∧ W3.grownBy wx (some BR))
      case first =>
        by_cases h1 : l[k].kind = 1
        · have hp1 : p = -1 := by rw [← HP.out, parC, if_pos h1]
          have hd : decide ((0 : Int) ≤ p) = false := decide_eq_false (by omega)
          have K1 := Lib.hid h1
          clear h1
          go_wp2_with fail
          go_meet
          exact ⟨true, 0, 1, rfl, RR.out.gr g34.out, fun q => absurd K1.out q, fun _ => rfl, g34.out.by _⟩
        · obtain ⟨hm, p0, p1⟩ := par_lt CK.out h1 KK.out.1 KK.out.2
          rw [HJ.out, HP.out] at p0 p1
          have hd : decide ((0 : Int) ≤ p) = true := decide_eq_true (by omega)
          obtain ⟨q, hq⟩ : ∃ q : Nat, p = q := ⟨_, (Int.toNat_of_nonneg p0).symm⟩
          have hqk : q < k := by omega
          have hat := encP_at ((rts (l.take k) (s.take k)).map prR) q (by rw [List.length_map, HLR.out]; exact hqk)
          have hel : (rts (l.take k) (s.take k))[q]'(by rw [HLR.out]; exact hqk) = pt := by
            have e := HPT.out
            rw [List.getD_eq_getElem?_getD, List.getElem?_eq_getElem (by rw [HLR.out]; omega)] at e
            have e2 : p.toNat = q := by omega
            subst e
            simp only [e2]; rfl
          rw [List.getElem_map, hel] at hat
          obtain ⟨g1, d1, e1, _, _, hc1⟩ := owns_cell P1.out (by omega)
          obtain ⟨g2, d2, e2, _, _, hc2⟩ := owns_cell P2.out (by omega)
          cases e1
          cases e2
          have r0 := hc1 (q * 2) (by omega)
          have r1 := hc1 (q * 2 + 1) (by omega)
          have r2 := hc2 q (by omega)
          rw [List.getElem?_eq_getElem (by rw [encP_len, List.length_map, HLR.out]; omega), hat.1] at r0
          rw [List.getElem?_eq_getElem (by rw [encP_len, List.length_map, HLR.out]; omega), hat.2] at r1
          rw [List.getElem?_eq_getElem (by simp [bools, onL, HLR.out]; omega)] at r2
          simp only [bools, onL, List.getElem_map, hel] at r2
          have r0' := cell_gr g34.out r0
          have r1' := cell_gr g34.out r1
          have r2' := cell_gr g34.out r2
          have rh1 := has_of_cell r0'
          have rh2 := has_of_cell r2'
          have b0 := (RR.out.gr g34.out).cell 0 (by simp)
          have b1 := (RR.out.gr g34.out).cell 1 (by simp)
          have bf0 := (RR.out.gr g34.out).free 0
          have bf1 := (RR.out.gr g34.out).free 1
          have bh := (RR.out.gr g34.out).has
          simp only [List.getElem_cons_zero, List.getElem_cons_succ] at b0 b1
          have n2 : ¬ (g2 = BR) := by have := nown2.out g2 rfl; omega
          have n3 : ¬ (BR = g2) := fun e => n2 e.symm
          have q2 : (q : Int) < k := by omega
          obtain ⟨x0, ex0⟩ : ∃ x, (prR pt).1 = x := ⟨_, rfl⟩
          obtain ⟨x1, ex1⟩ : ∃ x, (prR pt).2 = x := ⟨_, rfl⟩
          obtain ⟨xo, exo⟩ : ∃ x, pt.isSome = x := ⟨_, rfl⟩
          rw [ex0] at r0'
          rw [ex1] at r1'
          rw [exo] at r2'
          have EX : Hid ((x0, x1) = prR pt ∧ xo = pt.isSome) := Lib.hid ⟨by rw [← ex0, ← ex1], exo.symm⟩
          have K1 := Lib.hid h1
          clear hm p0 p1 hat hel hc1 hc2 r0 r1 r2 ex0 ex1 exo h1
          subst hq
          go_wp2_with fail
          go_region
          go_wp2_with fail
          go_meet
          refine ⟨xo, x0, x1, rfl, ?_, fun _ => EX.out, fun q => absurd q K1.out, ?_⟩
          · exact (((RR.out.gr g34.out).set 0 (.int .i64 x0)).set 1 (.int .i64 x1)).drew
          · exact (((g34.out.by _).trans (grownBy_set W4 BR 0 (.int .i64 x0))).trans (grownBy_set _ BR 1 (.int .i64 x1))).trans ((Gr.refl _).drew.by _)
      case rest =>
        obtain ⟨on, rn, rd, rfl, hr, hcond, hone, hgb⟩ := hcut
        have stp : Hid (stepR (rts (l.take k) (s.take k)) l[k] s[k] = if l[k].kind = 1 then some (x, 1) else stepP l[k] x pt) := Lib.hid (by
          by_cases h1 : l[k].kind = 1
          · rw [if_pos h1, stepR, if_pos h1, HX.out]
          · have e1 : parC l[k] s[k] = p := by rw [HJ.out]; exact HP.out
            rw [if_neg h1, stepR_of h1, HX.out, e1, HPT.out])
        have bnd : l[k].kind ≠ 1 → 0 ≤ rn ∧ rn ≤ 144115188075855872 ∧ 1 ≤ rd ∧ rd ≤ 16777216 := fun h1 => by
          obtain ⟨hm, p0, p1⟩ := par_lt CK.out h1 KK.out.1 KK.out.2
          rw [HJ.out, HP.out] at p0 p1
          have hlp : p.toNat < (rts (l.take k) (s.take k)).length := by rw [HLR.out]; omega
          have h9 := RO.out k hk p.toNat hlp
          have e := HPT.out
          rw [List.getD_eq_getElem?_getD, List.getElem?_eq_getElem hlp] at e
          have e' : (rts (l.take k) (s.take k))[p.toNat] = pt := e
          rw [e'] at h9
          have := rt_bounds h9
          rw [← (hcond h1).1] at this
          exact this
        have BND := Lib.hid bnd
        have COND := Lib.hid hcond
        have ONE := Lib.hid hone
        have R5 := Lib.hid hr
        have GB := Lib.hid hgb
        have rc := RC.out.grown hgb (fun e => bcr.out (Option.some.inj e))
        have m0 := rc.cell 0 (by simp)
        have m2 := rc.cell 2 (by simp)
        have mh := rc.has
        simp only [List.getElem_cons_zero, List.getElem_cons_succ] at m0 m2
        have q1' := hgb.cell Q1.out (fun e => by have e' : bs = BR := Option.some.inj e; have := lb1.out.1; omega)
        have q2' := hgb.cell Q2.out (fun e => by have e' : bc = BR := Option.some.inj e; have := lb1.out.2; omega)
        have hx1' := has_of_cell q1'
        have hx2' := has_of_cell q2'
        obtain ⟨wd, hwd⟩ : ∃ wd : World, wc = wd := ⟨_, rfl⟩
        subst hwd
        clear hr hcond hone hgb bnd rc
        go_wp2_with fail
        go_quiet (fail)
        go_upto_block 2 with (fail)
        obtain ⟨W6, hW6⟩ : ∃ W6 : World, Hid (W6 = wc.drewN nq) := ⟨_, Lib.hid rfl⟩
        rw [← hW6.out]
        have R6 : Hid (Row W6 BR 56 [.int .i64 rn, .int .i64 rd]) := Lib.hid (by rw [hW6.out]; exact R5.out.drewN _)
        have GB6 : Hid (W3.grownBy W6 (some BR)) := Lib.hid (by rw [hW6.out]; exact GB.out.trans (((Gr.refl _).drewN _).by _))
        clear hW6 R5 GB m0 m2 mh q1' q2' hx1' hx2'
        obtain ⟨st, hst⟩ : ∃ st, stepR (rts (l.take k) (s.take k)) l[k] s[k] = st := ⟨_, rfl⟩
        have STP := stp.out
        rw [hst] at STP
        have HST := Lib.hid hst
        have STP' := Lib.hid STP
        clear STP hst stp
        have b0 := R6.out.cell 0 (by simp)
        have b1 := R6.out.cell 1 (by simp)
        have bf0 := R6.out.free 0
        have bf1 := R6.out.free 1
        have bh := R6.out.has
        simp only [List.getElem_cons_zero, List.getElem_cons_succ] at b0 b1
        go_cut [11] (fun v wx => v = .bool st.isSome ∧ Row wx BR 56 [.int .i64 (prR st).1, .int .i64 (prR st).2] ∧ W3.grownBy wx (some BR))
        case first =>
          have setg : ∀ (W : World) (y z : Int), W3.grownBy W (some BR) → W3.grownBy ((W.setCell ⟨BR, 0, none⟩ (.int .i64 y)).setCell ⟨BR, 1, none⟩ (.int .i64 z)) (some BR) := fun W y z h => (h.trans (grownBy_set W BR 0 _)).trans (grownBy_set _ BR 1 _)
          have SETG := Lib.hid setg
          clear setg
          by_cases h1 : l[k].kind = 1
          · have bb : (l[k].kind == 1) = true := by simp [h1]
            have E : Hid (st = some (x, 1)) := Lib.hid (by rw [STP'.out, if_pos h1])
            have EO := ONE.out h1
            subst EO
            clear h1
            go_wp2_with fail
            go_meet
            rw [E.out]
            exact ⟨rfl, (R6.out.set 0 (.int .i64 x)).set 1 (.int .i64 1), SETG.out _ _ _ GB6.out⟩
          · have bb : (l[k].kind == 1) = false := by simp [h1]
            have E : Hid (st = stepP l[k] x pt) := Lib.hid (by rw [STP'.out, if_neg h1])
            obtain ⟨hc1, hc2⟩ := COND.out h1
            obtain ⟨u0, u1, u2, u3⟩ := BND.out h1
            have HC1 := Lib.hid hc1
            have HC2 := Lib.hid hc2
            clear hc1 hc2
            by_cases h2 : l[k].kind = 2
            · have bb2 : (l[k].kind == 2) = true := by simp [h2]
              obtain ⟨x0, x1⟩ := fac_range CK.out (.inl h2) KK.out.1 KK.out.2
              rw [HX.out] at x0 x1
              have S2 := Lib.hid (step_2 h2 HC1.out x0 x1)
              clear h1 h2
              go_wp2_with fail
              refine (refOver_any rn rd x _ (by omega) (by omega) (by omega) (by omega)).mono ?_
              rintro e w' ⟨rfl, O1, D1, rfl⟩
              go_wp2_with fail
              go_meet
              rw [E.out, S2.out.1, S2.out.2, HC2.out]
              exact ⟨rfl, ((R6.out.set 0 (.int .i64 (oN rn rd x))).set 1 (.int .i64 (oD rn rd x))).xt O1 D1, (SETG.out _ _ _ GB6.out).trans (((Gr.refl _).xt O1 D1).by _)⟩
            · have bb2 : (l[k].kind == 2) = false := by simp [h2]
              by_cases h3 : l[k].kind = 3
              · have bb3 : (l[k].kind == 3) = true := by simp [h3]
                obtain ⟨x0, x1⟩ := fac_range CK.out (.inr h3) KK.out.1 KK.out.2
                rw [HX.out] at x0 x1
                have S3 := Lib.hid (step_3 h3 HC1.out x0 x1)
                clear h1 h2 h3
                go_wp2_with fail
                refine (refTimes_any rn rd x _ (by omega) (by omega) (by omega) (by omega)).mono ?_
                rintro e w' ⟨rfl, O1, D1, rfl⟩
                go_wp2_with fail
                go_meet
                rw [E.out, S3.out.1, S3.out.2, HC2.out]
                exact ⟨rfl, ((R6.out.set 0 (.int .i64 (tN rn rd x))).set 1 (.int .i64 (tD rn rd x))).xt O1 D1, (SETG.out _ _ _ GB6.out).trans (((Gr.refl _).xt O1 D1).by _)⟩
              · have bb3 : (l[k].kind == 3) = false := by simp [h3]
                by_cases h5 : l[k].kind = 5
                · have bb5 : (l[k].kind == 5) = true := by simp [h5]
                  by_cases hx0 : x = 0
                  · have bx : (x == 0) = true := by simp [hx0]
                    have S5 := Lib.hid (step_5 (pt := pt) h5 hx0)
                    clear h1 h2 h3 h5 hx0
                    go_wp2_with fail
                    go_meet
                    rw [E.out, S5.out]
                    exact ⟨rfl, (R6.out.set 0 (.int .i64 0)).set 1 (.int .i64 1), SETG.out _ _ _ GB6.out⟩
                  · have bx : (x == 0) = false := by simp [hx0]
                    have S4 := Lib.hid (step_4 (x := x) (pt := pt) h2 h3 (fun _ => hx0))
                    clear h1 h2 h3 h5 hx0
                    go_wp2_with fail
                    go_meet
                    rw [E.out, S4.out, ← HC1.out, HC2.out]
                    exact ⟨rfl, R6.out, GB6.out⟩
                · have bb5 : (l[k].kind == 5) = false := by simp [h5]
                  have S4 := Lib.hid (step_4 (x := x) (pt := pt) h2 h3 (fun q => absurd q h5))
                  clear h1 h2 h3 h5
                  go_wp2_with fail
                  go_meet
                  rw [E.out, S4.out, ← HC1.out, HC2.out]
                  exact ⟨rfl, R6.out, GB6.out⟩
        case rest =>
          obtain ⟨rfl, hr7, hg7⟩ := hcut
          obtain ⟨n1, en1⟩ : ∃ n, (prR st).1 = n := ⟨_, rfl⟩
          obtain ⟨n2, en2⟩ : ∃ n, (prR st).2 = n := ⟨_, rfl⟩
          obtain ⟨o1, eo1⟩ : ∃ o, st.isSome = o := ⟨_, rfl⟩
          rw [en1, en2] at hr7
          have EN : Hid (prR st = (n1, n2) ∧ st.isSome = o1) := Lib.hid ⟨by rw [← en1, ← en2], eo1⟩
          have b0 := hr7.cell 0 (by simp)
          have b1 := hr7.cell 1 (by simp)
          have bh := hr7.has
          simp only [List.getElem_cons_zero, List.getElem_cons_succ] at b0 b1
          have nb1 : ∀ (v : Value), (∀ g, v.ownBlock = some g → g < BR) → v.ownBlock = none ∨ v.ownBlock ≠ some BR := fun v hv => by
            cases e : v.ownBlock with
            | none => exact .inl rfl
            | some g => exact .inr (fun q => by have := hv g e; have := Option.some.inj q; omega)
          have P7 := P1.out.kept hg7 (nb1 _ nown.out)
          have S7 := Lib.hid (P2.out.kept hg7 (nb1 _ nown2.out))
          have A7 := Lib.hid (P7.alloc (.cells #[.int .i64 n1, .int .i64 n2] 56))
          have C7 : Hid (∀ j u, ([Value.int .i64 n1, .int .i64 n2])[j]? = some u → (wc.alloc (.cells #[.int .i64 n1, .int .i64 n2] 56)).cell? ((⟨wc.heap.size, 0, none⟩ : Addr).add j) = some u) := Lib.hid (row_cells (Row.new wc #[.int .i64 n1, .int .i64 n2] 56))
          have one : Hid (∀ u ∈ [Value.int .i64 n1, .int .i64 n2], u.oneCell' = true) := Lib.hid (by
            intro u hu
            simp only [List.mem_cons, List.not_mem_nil, or_false] at hu
            rcases hu with rfl | rfl <;> rfl)
          have G7 : Hid (Gr w wc) := Lib.hid (G3.out.grown hg7 (fun q e => by have := Option.some.inj e; have := br.out; omega))
          have base : Hid (w.heap.size ≤ wc.heap.size) := Lib.hid G7.out.size
          have nn := owns_two P7 S7.out (by decide)
          have NN := Lib.hid nn
          rw [eo1]
          clear hr7 hg7 P7 nb1 en1 en2 eo1 nn
          go_wp2_with (first
            | (at_builtin; refine wpList_append_own _ rfl _ _ 48 rfl w.heap.size 56 j0 (.agg #[.int .i64 0, .int .i64 0]) 2 16 Tryd.underlying48 hj hy0 hy1 hy2 rfl (by decide) (.slice a1 k c1') k (encP ((rts (l.take k) (s.take k)).map prR)) rfl A7.out ⟨wc.heap.size, 0, none⟩ 1 1 [.int .i64 n1, .int .i64 n2] rfl rfl C7.out one.out (by unfold maxLen; omega) (by omega) (by have := base.out; simp; omega) ?_; intro v' W8 hown hgrow hnil; obtain ⟨a8, c8, rfl⟩ := owns_slice hown; have O8 := Lib.hid hown; have G8 := Lib.hid ((G7.out.alloc (.cells #[.int .i64 n1, .int .i64 n2] 56)).grown hgrow (fun q e => (A7.out.lt q e).1)); have S8 := Lib.hid (((S7.out.alloc (.cells #[.int .i64 n1, .int .i64 n2] 56)).kept hgrow NN.out).alloc (.cells #[.bool o1] 4)); have C8 : Hid (∀ j u, ([Value.bool o1])[j]? = some u → (W8.alloc (.cells #[.bool o1] 4)).cell? ((⟨W8.heap.size, 0, none⟩ : Addr).add j) = some u) := Lib.hid (cell_one_new W8 (.bool o1) 4); clear hown hgrow hnil)
            | (at_builtin; refine wpList_append_own _ rfl _ _ 49 rfl w.heap.size 4 i0 (.bool false) 1 1 Tryd.underlying49 hi hz0 hz1 hz2 rfl (by decide) (.slice a2 k c2') k (bools (onL (rts (l.take k) (s.take k)))) rfl S8.out ⟨W8.heap.size, 0, none⟩ 1 1 [.bool o1] rfl rfl C8.out (by simp [Value.oneCell']) (by unfold maxLen; omega) (by omega) (by have := G8.out.size; simp; omega) ?_; intro v' W9 hown hgrow hnil; obtain ⟨a9, c9, rfl⟩ := owns_slice hown; have O9 := Lib.hid hown; have G9 := Lib.hid ((G8.out.alloc (.cells #[.bool o1] 4)).grown hgrow (fun q e => (S8.out.lt q e).1)); have A9 := Lib.hid ((O8.out.alloc (.cells #[.bool o1] 4)).kept hgrow (owns_two S8.out (O8.out.alloc (.cells #[.bool o1] 4)) (by decide))); clear hown hgrow hnil)
            | fail)
          go_roundw
          case rel =>
            have er : rts (l.take (k + 1)) (s.take (k + 1)) = rts (l.take k) (s.take k) ++ [st] := by rw [rts_take l s k hlt hls, HST.out]
            refine ⟨k + 1, a8, a9, c8, c9, by omega, by go_num, rfl, rfl, ?_, ?_, G9.out⟩
            · rw [er, List.map_append, List.map_cons, List.map_nil, encP_snoc, EN.out.1]; exact A9.out
            · rw [er]
              have := O9.out
              simpa [onL, bools, EN.out.2] using this
          case measure => simp [intOf]; omega
    · obtain rfl : k = l.length := by omega
      go_wp2_with fail
      go_ret2
      have h1 := O1.out
      have h2 := O2.out
      rw [List.take_length, List.take_of_length_le (by have := HSL.out; omega)] at h1 h2
      exact ⟨_, _, rfl, h1, h2, HG.out⟩
end Go.Proofs.YtenehghpmnajpaaDoor
