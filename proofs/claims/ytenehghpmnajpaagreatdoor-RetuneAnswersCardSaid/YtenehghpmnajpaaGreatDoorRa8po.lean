/- Lemmas and contracts for the proof of RetuneAnswers (several texts in one, printed by wip/tools/pack.py): Ks. -/
import Derived.Test.YtenehghpmnajpaaGreatDoorRa8pk
import Derived.Test.YtenehghpmnajpaaGreatDoorRa8ph
import Derived.Deep.CutBlock
set_option maxRecDepth 100000
set_option maxHeartbeats 16000000

/-! Contract of the reference's Parent. -/
set_option linter.unusedVariables false
set_option linter.unusedSimpArgs false
namespace Go.Proofs.YtenehghpmnajpaaGreatDoor
open Go.RowKit
open Classical
theorem refParent_any (c : Clk) (i : Nat) (k : Int) (ap ac : Option Addr) (cp cc : Nat) (w : World) (sp : SlOf 1 RI w ap c.parents) (sc : SlOf 1 RI w ac c.choices) (hc : ClkOk c i) (k0 : 0 ≤ k) (k1 : k < c.choices.length) (fp : c.parents.length ≤ 8) (fc : c.choices.length ≤ 8) :
    Calls Tryz.prog 104 #[.agg #[.int .i64 c.kind, .slice ap c.parents.length cp, .slice ac c.choices.length cc, .int .i64 c.low, .int .i64 c.high], .int .i64 k] w (Grows w (.int .i64 (parC c k))) := by
  by_cases h1 : c.kind = 1
  · have b1 : (c.kind == 1) = true := by simp [h1]
    have HP := Lib.hid (show parC c k = -1 by rw [parC, if_pos h1])
    clear hc sp sc h1
    go_enter Tryz.func104, Tryz.ntmps104
    go_wp2_with fail
    go_ret
    exact ⟨ret_int HP.out.symm, (Gr.refl _).alloc _⟩
  · have b1 : (c.kind == 1) = false := by simp [h1]
    obtain ⟨hm, p0, p1⟩ := par_lt hc h1 k0 k1
    by_cases h4 : c.kind = 4
    · have b4 : (c.kind == 4) = true := by simp [h4]
      obtain ⟨hk, e⟩ := ch_of k0 k1
      obtain ⟨bc, oc, rfl, ⟨q2, y2⟩⟩ := sc.one _ hk
      have hcb : 0 ≤ c.choices[k.toNat] ∧ c.choices[k.toNat] ≤ (c.parents.length : Int) - 1 := by
        rcases hc.2.1 with ⟨h, _⟩ | ⟨h, _⟩ | ⟨_, _, _, hd⟩ | ⟨h, _⟩
        · omega
        · omega
        · obtain ⟨_, d1, d2, _⟩ := hd _ hk; exact ⟨d1, d2⟩
        · omega
      have hpl : (c.choices[k.toNat]).toNat < c.parents.length := by omega
      obtain ⟨bp, op, rfl, ⟨q3, y3⟩⟩ := sp.one _ hpl
      have HP := Lib.hid (show parC c k = c.parents[(c.choices[k.toNat]).toNat] by
        rw [parC, if_neg h1, if_pos h4, e, List.getD_eq_getElem?_getD, List.getElem?_eq_getElem hpl]; rfl)
      obtain ⟨kn, hk'⟩ : ∃ kn : Nat, k = kn := ⟨_, (Int.toNat_of_nonneg k0).symm⟩
      obtain ⟨j, hj⟩ : ∃ j : Nat, c.choices[k.toNat] = j := ⟨_, (Int.toNat_of_nonneg hcb.1).symm⟩
      obtain ⟨y, hy⟩ : ∃ y : Int, c.parents[(c.choices[k.toNat]).toNat] = y := ⟨_, rfl⟩
      rw [hy] at q3 HP
      have q2' : w.cell? ⟨bc, oc + kn, none⟩ = some (.int .i64 j) := by
        have e1 : k.toNat = kn := by omega
        rw [← hj, ← e1]; exact q2
      have q3' : w.cell? ⟨bp, op + j, none⟩ = some (.int .i64 y) := by
        have e1 : (c.choices[k.toNat]).toNat = j := by omega
        rw [← e1]; exact q3
      have k2 : (kn : Int) < c.choices.length := by omega
      have j2 : (j : Int) < c.parents.length := by omega
      have x2 := has_of_cell q2'
      have x3 := has_of_cell q3'
      rw [hk'] at HP ⊢
      clear y2 y3 hc sp sc h1 h4 q2 q3 hk e hm p0 p1 hcb hpl hj hy k0 k1 hk'
      go_enter Tryz.func104, Tryz.ntmps104
      go_wp2_with fail
      go_quiet (fail)
      go_wp2_with fail
      go_ret
      exact ⟨ret_int HP.out.symm, by repeat (first | with_reducible exact Gr.refl _ | with_reducible refine Gr.drewN _ ?_ | with_reducible refine Gr.alloc _ ?_)⟩
    · have b4 : (c.kind == 4) = false := by simp [h4]
      have hl0 : 0 < c.parents.length := List.length_pos_of_mem hm
      obtain ⟨bp, op, rfl, ⟨q3, y3⟩⟩ := sp.one 0 hl0
      have HP := Lib.hid (show parC c k = c.parents[0] by
        rw [parC, if_neg h1, if_neg h4, List.getD_eq_getElem?_getD, List.getElem?_eq_getElem hl0]; rfl)
      have j2 : (0 : Int) < c.parents.length := by omega
      rw [Nat.add_zero] at q3
      have x3 := has_of_cell q3
      clear y3 hc sp sc h1 h4 hm p0 p1
      go_enter Tryz.func104, Tryz.ntmps104
      go_wp2_with fail
      go_ret
      exact ⟨ret_int HP.out.symm, (Gr.refl _).alloc _⟩
end Go.Proofs.YtenehghpmnajpaaGreatDoor
/-! Contract of the reference's States. -/
set_option linter.unusedVariables false
set_option linter.unusedSimpArgs false
namespace Go.Proofs.YtenehghpmnajpaaGreatDoor
open Go.RowKit
open Classical
theorem newZ (d : Int) (h0 : 1 ≤ d) : newN 0 d = 0 ∧ newD 0 d = 1 := by
  have hg : (Int.gcd 0 d : Int) = d := by
    rw [Int.gcd_zero_left]; omega
  have h1 : d / d = 1 := Int.ediv_self (by omega)
  have ho : okNew 0 d = true := by
    unfold okNew
    rw [hg, h1]
    simp [h0]
    decide
  rw [newN, newD, if_pos ho, if_pos ho, hg, h1]
  simp
theorem over_off (k : Int) (h0 : 1 ≤ k) (h1 : k ≤ 64) : oN 0 1 k = 0 ∧ oD 0 1 k = 1 := by
  have hv := over_new 0 1 k (by omega) (by omega) h0
  have ho : okFac 0 1 k = true := by simp [okFac, h0, h1]; decide
  rw [oN, oD, if_pos ho, if_pos ho, ← hv.2.1, ← hv.2.2]
  exact newZ (1 * k) (by omega)
theorem times_off (k : Int) (h0 : 1 ≤ k) (h1 : k ≤ 64) : tN 0 1 k = 0 ∧ tD 0 1 k = 1 := by
  have ho : okFac 0 1 k = true := by simp [okFac, h0, h1]; decide
  have hg : (Int.gcd k 1 : Int) = 1 := by simp
  have hb : ¬ tmBig 0 1 k := by
    unfold tmBig
    have := Int.ediv_nonneg (a := 144115188075855872) (b := k / Int.gcd k 1) (by omega) (by rw [hg]; simp; omega)
    omega
  have h := tN_of hb ho
  rw [h.1, h.2, hg]
  simpa using newZ 1 (by omega)
def onL (R : List Rt) : List Bool := R.map Option.isSome
def GivesStates (w : World) (l : List Clk) (s : List Int) (e : Ending) (w' : World) : Prop :=
  ∃ v1 v2, e = .returned (.tuple #[v1, v2]) ∧ w'.ownsRow w.heap.size 93 2 v1 l.length (encP ((rts l s).map prR)) ∧ w'.ownsRow w.heap.size 4 1 v2 l.length (bools (onL (rts l s))) ∧ Gr w w'
theorem encP_snoc (ps : List (Int × Int)) (p : Int × Int) : encP (ps ++ [p]) = encP ps ++ [.int .i64 p.1, .int .i64 p.2] := by simp [encP]
theorem infoBool : (Tryz.prog.info? 4).map (fun i => (i.zero, i.size, i.bytes)) = some (some (.bool false), 1, 1) := by kernel_rfl
theorem owns_two {w : World} {base base' e e' size size' n n' : Nat} {v v' : Value} {xs xs' : List Value} (h : w.ownsRow base e size v n xs) (h' : w.ownsRow base' e' size' v' n' xs') (hT : e ≠ e') : v'.ownBlock = none ∨ v'.ownBlock ≠ v.ownBlock := by
  obtain ⟨_, ⟨rfl, _⟩ | ⟨g', cap', cur', rfl, _, hg', _⟩⟩ := h'
  · exact .inl rfl
  · refine .inr fun q => ?_
    obtain ⟨_, ⟨rfl, _⟩ | ⟨g, cap, cur, rfl, _, hg, _⟩⟩ := h
    · cases q
    · have : g' = g := by simpa [Value.ownBlock] using q
      subst this
      rw [hg] at hg'
      injection hg' with hg'
      injection hg' with _ hg'
      exact hT hg'
theorem fac_range {c : Clk} {i : Nat} {k : Int} (hc : ClkOk c i) (h : c.kind = 2 ∨ c.kind = 3) (k0 : 0 ≤ k) (k1 : k < c.choices.length) : 1 ≤ chC c k ∧ chC c k ≤ 64 := by
  obtain ⟨hk', e'⟩ := ch_of k0 k1
  rcases hc.2.1 with ⟨h, _⟩ | ⟨_, _, _, hd⟩ | ⟨h, _⟩ | ⟨h, _⟩
  · omega
  · obtain ⟨_, d1, d2, _⟩ := hd _ hk'; rw [e']; exact ⟨d1, d2⟩
  · omega
  · omega
theorem step_2 {c : Clk} {x rn rd : Int} {pt : Rt} (h : c.kind = 2) (hp : (rn, rd) = prR pt) (x0 : 1 ≤ x) (x1 : x ≤ 64) : prR (stepP c x pt) = (oN rn rd x, oD rn rd x) ∧ (stepP c x pt).isSome = pt.isSome := by
  cases pt with
  | none =>
    simp only [prR, numR, denR, Prod.mk.injEq] at hp
    obtain ⟨rfl, rfl⟩ := hp
    have := over_off x x0 x1
    simp [stepP, prR, numR, denR, this.1, this.2]
  | some nd =>
    obtain ⟨n, d⟩ := nd
    simp only [prR, numR, denR, Prod.mk.injEq] at hp
    obtain ⟨rfl, rfl⟩ := hp
    simp [stepP, scaleR, h, prR, numR, denR]
theorem step_3 {c : Clk} {x rn rd : Int} {pt : Rt} (h : c.kind = 3) (hp : (rn, rd) = prR pt) (x0 : 1 ≤ x) (x1 : x ≤ 64) : prR (stepP c x pt) = (tN rn rd x, tD rn rd x) ∧ (stepP c x pt).isSome = pt.isSome := by
  cases pt with
  | none =>
    simp only [prR, numR, denR, Prod.mk.injEq] at hp
    obtain ⟨rfl, rfl⟩ := hp
    have := times_off x x0 x1
    simp [stepP, prR, numR, denR, this.1, this.2]
  | some nd =>
    obtain ⟨n, d⟩ := nd
    simp only [prR, numR, denR, Prod.mk.injEq] at hp
    obtain ⟨rfl, rfl⟩ := hp
    simp [stepP, scaleR, h, prR, numR, denR]
theorem step_4 {c : Clk} {x : Int} {pt : Rt} (h2 : c.kind ≠ 2) (h3 : c.kind ≠ 3) (h5 : c.kind = 5 → x ≠ 0) : stepP c x pt = pt := by
  cases pt with
  | none => rfl
  | some nd =>
    obtain ⟨n, d⟩ := nd
    have : ¬ (c.kind = 5 ∧ x = 0) := fun q => h5 q.1 q.2
    simp [stepP, scaleR, h2, h3, this]
theorem step_5 {c : Clk} {x : Int} {pt : Rt} (h5 : c.kind = 5) (hx : x = 0) : stepP c x pt = none := by
  cases pt with
  | none => rfl
  | some nd => simp [stepP, scaleR, h5, hx]
theorem rt_bounds {t : Nat} {pt : Rt} (h : RtOk t pt) : 0 ≤ (prR pt).1 ∧ (prR pt).1 ≤ 144115188075855872 ∧ 1 ≤ (prR pt).2 ∧ (prR pt).2 ≤ 16777216 := by
  cases pt with
  | none => simp [prR, numR, denR]
  | some nd =>
    obtain ⟨n, d⟩ := nd
    have v := valid_parts (h n d rfl).1
    simp only [prR, numR, denR]
    omega
theorem states_any (l : List Clk) (s : List Int) (al aS : Option Addr) (cl cs : Nat) (w : World) (h : SlOf 5 RClk w al l) (hs : SlOf 1 RI w aS s) (hc : cchk l = 0) (hset : SetOk l s) :
    Calls Tryz.prog 51 #[.slice al l.length cl, .slice aS s.length cs] w (GivesStates w l s) := by
  obtain ⟨nb, ok, pr, fs⟩ := cchk_zero hc
  have hl := small_len nb
  have hsl : s.length = l.length := hset.1
  have H := Lib.hid h
  have HS := Lib.hid hs
  have OK := Lib.hid ok
  have HT := Lib.hid hset
  have NB := Lib.hid nb
  have RO := Lib.hid (rts_ok_take ok fs hset)
  have HSL := Lib.hid hsl
  clear h hs ok hset hc nb pr fs
  obtain ⟨j0, hj, hy0, hy1, hy2⟩ := info_parts infoRate
  obtain ⟨i0, hi, hz0, hz1, hz2⟩ := info_parts infoBool
  rw [hsl]
  clear hsl
  go_enter Tryz.func51, Tryz.ntmps51
  go_wp2_with fail
  go_loopw [6, 7, 16] (fun s6 s7 i wr => ∃ (k : Nat) (a1 a2 : Option Addr) (c1 c2 : Nat), k ≤ l.length ∧ i = .int .i64 k ∧ s6 = .slice a1 k c1 ∧ s7 = .slice a2 k c2 ∧ wr.ownsRow w.heap.size 93 2 (.slice a1 k c1) k (encP ((rts (l.take k) (s.take k)).map prR)) ∧ wr.ownsRow w.heap.size 4 1 (.slice a2 k c2) k (bools (onL (rts (l.take k) (s.take k)))) ∧ Gr w wr) (fun _ _ i _ => l.length - (intOf i).toNat)
  case atStart => exact ⟨0, none, none, 0, 0, Nat.zero_le _, rfl, rfl, rfl, World.ownsRow_nil _ _ _ _, World.ownsRow_nil _ _ _ _, Gr.refl _⟩
  case round =>
    obtain ⟨k, a1, a2, c1', c2', hk, rfl, rfl, rfl, ho1, ho2, hg⟩ := hrel
    have O1 := Lib.hid ho1
    have O2 := Lib.hid ho2
    have HG := Lib.hid hg
    clear ho1 ho2 hg
    obtain ⟨wo, rfl⟩ : ∃ wo : World, wo = wr := ⟨_, rfl⟩
    by_cases hlt : k < l.length
    · have hls : k < s.length := by have := HSL.out; omega
      obtain ⟨k0, k1⟩ := HT.out.2 k hlt hls
      obtain ⟨_, hck⟩ := OK.out k hlt
      obtain ⟨fp, fc⟩ := small_at NB.out hlt
      have CK := Lib.hid hck
      obtain ⟨b, o, rfl, ⟨c0, _⟩, ⟨ap, cp, c1, c1l, c1f, sp⟩, ⟨ac, cc, c2, c2l, c2f, sc⟩, ⟨c3, _⟩, ⟨c4, _⟩⟩ := clks_gr H.out HG.out k hlt
      obtain ⟨bs, os, rfl, ⟨q1, y1⟩⟩ := (HS.out.giI HG.out).one k hls
      obtain ⟨hkk, e⟩ := ch_of k0 k1
      obtain ⟨bc, oc, rfl, ⟨q2, y2⟩⟩ := sc.one _ hkk
      rw [← e] at q2 y2
      obtain ⟨j, hj'⟩ : ∃ j : Nat, s[k] = j := ⟨_, (Int.toNat_of_nonneg k0).symm⟩
      obtain ⟨x, hx⟩ : ∃ x : Int, chC l[k] s[k] = x := ⟨_, rfl⟩
      rw [hx] at q2 y2
      have e1 : s[k].toNat = j := by omega
      rw [e1] at q2
      rw [hj'] at q1
      have j2 : (j : Int) < l[k].choices.length := by omega
      have l1 : (k : Int) < l.length := by omega
      have hx2 := has_of_cell q2
      have hx1 := has_of_cell q1
      have HX := Lib.hid hx
      have HJ := Lib.hid hj'
      have KK := Lib.hid (show 0 ≤ s[k] ∧ s[k] < l[k].choices.length from ⟨k0, k1⟩)
      have PAR := Lib.hid (fun W (hW : Gr wo W) => refParent_any l[k] k s[k] ap (some ⟨bc, oc, none⟩) cp cc W (sp.giI hW) (sc.giI hW) hck k0 k1 fp fc)
      rw [hj'] at PAR
      obtain ⟨p, hp⟩ : ∃ p, parC l[k] (j : Int) = p := ⟨_, rfl⟩
      rw [hp] at PAR
      have HP := Lib.hid hp
      unfold Wide at y2
      clear hck sp sc c1f c2f hkk e hx hj' e1 y1 k0 k1 hp
      go_wp2_with fail
      obtain ⟨BC, hBC⟩ : ∃ BC : Nat, Hid (wo.heap.size = BC) := ⟨_, Lib.hid rfl⟩
      obtain ⟨BR, hBR⟩ : ∃ BR : Nat, Hid (wo.heap.size + 1 = BR) := ⟨_, Lib.hid rfl⟩
      rw [hBR.out, hBC.out]
      obtain ⟨W3, hW3⟩ : ∃ W3 : World, Hid (W3 = (wo.alloc (.cells #[.int .i64 l[k].kind, .slice ap l[k].parents.length cp, .slice (some ⟨bc, oc, none⟩) l[k].choices.length cc, .int .i64 l[k].low, .int .i64 l[k].high] 79)).alloc (.cells #[.int .i64 0, .int .i64 1] 93)) := ⟨_, Lib.hid rfl⟩
      rw [← hW3.out]
      have g3 : Gr wo W3 := by rw [hW3.out]; exact ((Gr.refl _).alloc _).alloc _
      have RC : Hid (Row W3 BC 79 [.int .i64 l[k].kind, .slice ap l[k].parents.length cp, .slice (some ⟨bc, oc, none⟩) l[k].choices.length cc, .int .i64 l[k].low, .int .i64 l[k].high]) := Lib.hid (by rw [hW3.out, ← hBC.out]; exact (Row.new wo _ _).alloc _)
      have RR : Hid (Row W3 BR 93 [.int .i64 0, .int .i64 1]) := Lib.hid (by rw [hW3.out]; exact row_new' _ _ _ _ (by rw [← hBR.out]; simp))
      have G3 := Lib.hid (HG.out.trans g3)
      have P1 := Lib.hid (Gr.owns O1.out g3)
      have P2 := Lib.hid (Gr.owns O2.out g3)
      have br : Hid (w.heap.size ≤ BR) := Lib.hid (by have := HG.out.size; have := hBR.out; omega)
      have bcr : Hid (BC ≠ BR) := Lib.hid (by have := hBC.out; have := hBR.out; omega)
      have nown : Hid (∀ g, (Value.slice a1 k c1').ownBlock = some g → g < BR) := Lib.hid (fun g hgg => by have := (O1.out.lt g hgg).2; have := hBR.out; omega)
      have nown2 : Hid (∀ g, (Value.slice a2 k c2').ownBlock = some g → g < BR) := Lib.hid (fun g hgg => by have := (O2.out.lt g hgg).2; have := hBR.out; omega)
      have m0 := RC.out.cell 0 (by simp)
      have m1 := RC.out.cell 1 (by simp)
      have m2 := RC.out.cell 2 (by simp)
      have m3 := RC.out.cell 3 (by simp)
      have m4 := RC.out.cell 4 (by simp)
      have mh := RC.out.has
      simp only [List.getElem_cons_zero, List.getElem_cons_succ] at m0 m1 m2 m3 m4
      have q1' := cell_gr g3 q1
      have q2' := cell_gr g3 q2
      have hx1' := has_of_cell q1'
      have hx2' := has_of_cell q2'
      have PAR' : Hid (∀ W, Gr W3 W → Calls Tryz.prog 104 #[.agg #[.int .i64 l[k].kind, .slice ap l[k].parents.length cp, .slice (some ⟨bc, oc, none⟩) l[k].choices.length cc, .int .i64 l[k].low, .int .i64 l[k].high], .int .i64 j] W (Grows W (.int .i64 p))) := Lib.hid (fun W hW => PAR.out W (g3.trans hW))
      have lb1 : Hid (bs < BR ∧ bc < BR) := Lib.hid (by unfold Has at hx1 hx2; have := hBR.out; omega)
      have Q1 := Lib.hid q1'
      have Q2 := Lib.hid q2'
      clear hW3 hBC hBR O1 O2 HG PAR c0 c1 c2 c3 c4 q1 q2 hx1 hx2 g3
      refine wp_region_grows (by kernel_rfl) (by kernel_rfl) ?_
      repeat (go_big_quiet_step (first | (go_at_call 104; exact calls_grows (PAR'.out _ ((Gr.refl _).xt _ _)))))
      refine wpQuiet_nil ?_
      rintro _ ⟨⟨O, dd⟩, rfl⟩
      go_upto_if 29 with (fail)
      obtain ⟨W4, hW4⟩ : ∃ W4 : World, Hid (W4 = xt W3 O dd) := ⟨_, Lib.hid rfl⟩
      rw [← hW4.out]
      have g34 : Hid (Gr W3 W4) := Lib.hid (by rw [hW4.out]; exact (Gr.refl _).xt O dd)
      obtain ⟨pt, hpt⟩ : ∃ pt, (rts (l.take k) (s.take k)).getD p.toNat none = pt := ⟨_, rfl⟩
      have HPT := Lib.hid hpt
      have hlr : (rts (l.take k) (s.take k)).length = k := by rw [rts_len _ _ (by have := HSL.out; simp; omega)]; simp; omega
      have HLR := Lib.hid hlr
      clear hW4 hpt m0 m1 m2 m3 m4 mh q1' q2' hx1' hx2' PAR' hlr
      go_cut [11] (fun v wx => ∃ (on : Bool) (rn rd : Int), v = .bool on ∧ Row wx BR 93 [.int .i64 rn, .int .i64 rd] ∧ (l[k].kind ≠ 1 → (rn, rd) = prR pt ∧ on = pt.isSome) ∧ (l[k].kind = 1 → on = true) ∧ W3.grownBy wx (some BR))
      case first =>
        by_cases h1 : l[k].kind = 1
        · have hp1 : p = -1 := by rw [← HP.out, parC, if_pos h1]
          have hd : decide ((0 : Int) ≤ p) = false := decide_eq_false (by omega)
          have K1 := Lib.hid h1
          clear h1
          go_wp2_with fail
          go_meet
          exact ⟨true, 0, 1, rfl, RR.out.gr g34.out, fun q => absurd K1.out q, fun _ => rfl, g34.out.by _⟩
        · obtain ⟨hm, p0, p1⟩ := par_lt CK.out h1 KK.out.1 KK.out.2
          rw [HJ.out, HP.out] at p0 p1
          have hd : decide ((0 : Int) ≤ p) = true := decide_eq_true (by omega)
          obtain ⟨q, hq⟩ : ∃ q : Nat, p = q := ⟨_, (Int.toNat_of_nonneg p0).symm⟩
          have hqk : q < k := by omega
          have hat := encP_at ((rts (l.take k) (s.take k)).map prR) q (by rw [List.length_map, HLR.out]; exact hqk)
          have hel : (rts (l.take k) (s.take k))[q]'(by rw [HLR.out]; exact hqk) = pt := by
            have e := HPT.out
            rw [List.getD_eq_getElem?_getD, List.getElem?_eq_getElem (by rw [HLR.out]; omega)] at e
            have e2 : p.toNat = q := by omega
            subst e
            simp only [e2]; rfl
          rw [List.getElem_map, hel] at hat
          obtain ⟨g1, d1, e1, _, _, hc1⟩ := owns_cell P1.out (by omega)
          obtain ⟨g2, d2, e2, _, _, hc2⟩ := owns_cell P2.out (by omega)
          cases e1
          cases e2
          have r0 := hc1 (q * 2) (by omega)
          have r1 := hc1 (q * 2 + 1) (by omega)
          have r2 := hc2 q (by omega)
          rw [List.getElem?_eq_getElem (by rw [encP_len, List.length_map, HLR.out]; omega), hat.1] at r0
          rw [List.getElem?_eq_getElem (by rw [encP_len, List.length_map, HLR.out]; omega), hat.2] at r1
          rw [List.getElem?_eq_getElem (by simp [bools, onL, HLR.out]; omega)] at r2
          simp only [bools, onL, List.getElem_map, hel] at r2
          have r0' := cell_gr g34.out r0
          have r1' := cell_gr g34.out r1
          have r2' := cell_gr g34.out r2
          have rh1 := has_of_cell r0'
          have rh2 := has_of_cell r2'
          have b0 := (RR.out.gr g34.out).cell 0 (by simp)
          have b1 := (RR.out.gr g34.out).cell 1 (by simp)
          have bf0 := (RR.out.gr g34.out).free 0
          have bf1 := (RR.out.gr g34.out).free 1
          have bh := (RR.out.gr g34.out).has
          simp only [List.getElem_cons_zero, List.getElem_cons_succ] at b0 b1
          have n2 : ¬ (g2 = BR) := by have := nown2.out g2 rfl; omega
          have n3 : ¬ (BR = g2) := fun e => n2 e.symm
          have q2 : (q : Int) < k := by omega
          obtain ⟨x0, ex0⟩ : ∃ x, (prR pt).1 = x := ⟨_, rfl⟩
          obtain ⟨x1, ex1⟩ : ∃ x, (prR pt).2 = x := ⟨_, rfl⟩
          obtain ⟨xo, exo⟩ : ∃ x, pt.isSome = x := ⟨_, rfl⟩
          rw [ex0] at r0'
          rw [ex1] at r1'
          rw [exo] at r2'
          have EX : Hid ((x0, x1) = prR pt ∧ xo = pt.isSome) := Lib.hid ⟨by rw [← ex0, ← ex1], exo.symm⟩
          have K1 := Lib.hid h1
          clear hm p0 p1 hat hel hc1 hc2 r0 r1 r2 ex0 ex1 exo h1
          subst hq
          go_wp2_with fail
          go_region
          go_wp2_with fail
          go_meet
          refine ⟨xo, x0, x1, rfl, ?_, fun _ => EX.out, fun q => absurd q K1.out, ?_⟩
          · exact (((RR.out.gr g34.out).set 0 (.int .i64 x0)).set 1 (.int .i64 x1)).drew
          · exact (((g34.out.by _).trans (grownBy_set W4 BR 0 (.int .i64 x0))).trans (grownBy_set _ BR 1 (.int .i64 x1))).trans ((Gr.refl _).drew.by _)
      case rest =>
        obtain ⟨on, rn, rd, rfl, hr, hcond, hone, hgb⟩ := hcut
        have stp : Hid (stepR (rts (l.take k) (s.take k)) l[k] s[k] = if l[k].kind = 1 then some (x, 1) else stepP l[k] x pt) := Lib.hid (by
          by_cases h1 : l[k].kind = 1
          · rw [if_pos h1, stepR, if_pos h1, HX.out]
          · have e1 : parC l[k] s[k] = p := by rw [HJ.out]; exact HP.out
            rw [if_neg h1, stepR_of h1, HX.out, e1, HPT.out])
        have bnd : l[k].kind ≠ 1 → 0 ≤ rn ∧ rn ≤ 144115188075855872 ∧ 1 ≤ rd ∧ rd ≤ 16777216 := fun h1 => by
          obtain ⟨hm, p0, p1⟩ := par_lt CK.out h1 KK.out.1 KK.out.2
          rw [HJ.out, HP.out] at p0 p1
          have hlp : p.toNat < (rts (l.take k) (s.take k)).length := by rw [HLR.out]; omega
          have h9 := RO.out k hk p.toNat hlp
          have e := HPT.out
          rw [List.getD_eq_getElem?_getD, List.getElem?_eq_getElem hlp] at e
          have e' : (rts (l.take k) (s.take k))[p.toNat] = pt := e
          rw [e'] at h9
          have := rt_bounds h9
          rw [← (hcond h1).1] at this
          exact this
        have BND := Lib.hid bnd
        have COND := Lib.hid hcond
        have ONE := Lib.hid hone
        have R5 := Lib.hid hr
        have GB := Lib.hid hgb
        have rc := RC.out.grown hgb (fun e => bcr.out (Option.some.inj e))
        have m0 := rc.cell 0 (by simp)
        have m2 := rc.cell 2 (by simp)
        have mh := rc.has
        simp only [List.getElem_cons_zero, List.getElem_cons_succ] at m0 m2
        have q1' := hgb.cell Q1.out (fun e => by have e' : bs = BR := Option.some.inj e; have := lb1.out.1; omega)
        have q2' := hgb.cell Q2.out (fun e => by have e' : bc = BR := Option.some.inj e; have := lb1.out.2; omega)
        have hx1' := has_of_cell q1'
        have hx2' := has_of_cell q2'
        obtain ⟨wd, hwd⟩ : ∃ wd : World, wc = wd := ⟨_, rfl⟩
        subst hwd
        clear hr hcond hone hgb bnd rc
        go_wp2_with fail
        go_quiet (fail)
        go_upto_block 2 with (fail)
        obtain ⟨W6, hW6⟩ : ∃ W6 : World, Hid (W6 = wc.drewN nq) := ⟨_, Lib.hid rfl⟩
        rw [← hW6.out]
        have R6 : Hid (Row W6 BR 93 [.int .i64 rn, .int .i64 rd]) := Lib.hid (by rw [hW6.out]; exact R5.out.drewN _)
        have GB6 : Hid (W3.grownBy W6 (some BR)) := Lib.hid (by rw [hW6.out]; exact GB.out.trans (((Gr.refl _).drewN _).by _))
        clear hW6 R5 GB m0 m2 mh q1' q2' hx1' hx2'
        obtain ⟨st, hst⟩ : ∃ st, stepR (rts (l.take k) (s.take k)) l[k] s[k] = st := ⟨_, rfl⟩
        have STP := stp.out
        rw [hst] at STP
        have HST := Lib.hid hst
        have STP' := Lib.hid STP
        clear STP hst stp
        have b0 := R6.out.cell 0 (by simp)
        have b1 := R6.out.cell 1 (by simp)
        have bf0 := R6.out.free 0
        have bf1 := R6.out.free 1
        have bh := R6.out.has
        simp only [List.getElem_cons_zero, List.getElem_cons_succ] at b0 b1
        go_cut [11] (fun v wx => v = .bool st.isSome ∧ Row wx BR 93 [.int .i64 (prR st).1, .int .i64 (prR st).2] ∧ W3.grownBy wx (some BR))
        case first =>
          have setg : ∀ (W : World) (y z : Int), W3.grownBy W (some BR) → W3.grownBy ((W.setCell ⟨BR, 0, none⟩ (.int .i64 y)).setCell ⟨BR, 1, none⟩ (.int .i64 z)) (some BR) := fun W y z h => (h.trans (grownBy_set W BR 0 _)).trans (grownBy_set _ BR 1 _)
          have SETG := Lib.hid setg
          clear setg
          by_cases h1 : l[k].kind = 1
          · have bb : (l[k].kind == 1) = true := by simp [h1]
            have E : Hid (st = some (x, 1)) := Lib.hid (by rw [STP'.out, if_pos h1])
            have EO := ONE.out h1
            subst EO
            clear h1
            go_wp2_with fail
            go_meet
            rw [E.out]
            exact ⟨rfl, (R6.out.set 0 (.int .i64 x)).set 1 (.int .i64 1), SETG.out _ _ _ GB6.out⟩
          · have bb : (l[k].kind == 1) = false := by simp [h1]
            have E : Hid (st = stepP l[k] x pt) := Lib.hid (by rw [STP'.out, if_neg h1])
            obtain ⟨hc1, hc2⟩ := COND.out h1
            obtain ⟨u0, u1, u2, u3⟩ := BND.out h1
            have HC1 := Lib.hid hc1
            have HC2 := Lib.hid hc2
            clear hc1 hc2
            by_cases h2 : l[k].kind = 2
            · have bb2 : (l[k].kind == 2) = true := by simp [h2]
              obtain ⟨x0, x1⟩ := fac_range CK.out (.inl h2) KK.out.1 KK.out.2
              rw [HX.out] at x0 x1
              have S2 := Lib.hid (step_2 h2 HC1.out x0 x1)
              clear h1 h2
              go_wp2_with fail
              refine (refOver_any rn rd x _ (by omega) (by omega) (by omega) (by omega)).mono ?_
              rintro e w' ⟨rfl, O1, D1, rfl⟩
              go_wp2_with fail
              go_meet
              rw [E.out, S2.out.1, S2.out.2, HC2.out]
              exact ⟨rfl, ((R6.out.set 0 (.int .i64 (oN rn rd x))).set 1 (.int .i64 (oD rn rd x))).xt O1 D1, (SETG.out _ _ _ GB6.out).trans (((Gr.refl _).xt O1 D1).by _)⟩
            · have bb2 : (l[k].kind == 2) = false := by simp [h2]
              by_cases h3 : l[k].kind = 3
              · have bb3 : (l[k].kind == 3) = true := by simp [h3]
                obtain ⟨x0, x1⟩ := fac_range CK.out (.inr h3) KK.out.1 KK.out.2
                rw [HX.out] at x0 x1
                have S3 := Lib.hid (step_3 h3 HC1.out x0 x1)
                clear h1 h2 h3
                go_wp2_with fail
                refine (refTimes_any rn rd x _ (by omega) (by omega) (by omega) (by omega)).mono ?_
                rintro e w' ⟨rfl, O1, D1, rfl⟩
                go_wp2_with fail
                go_meet
                rw [E.out, S3.out.1, S3.out.2, HC2.out]
                exact ⟨rfl, ((R6.out.set 0 (.int .i64 (tN rn rd x))).set 1 (.int .i64 (tD rn rd x))).xt O1 D1, (SETG.out _ _ _ GB6.out).trans (((Gr.refl _).xt O1 D1).by _)⟩
              · have bb3 : (l[k].kind == 3) = false := by simp [h3]
                by_cases h5 : l[k].kind = 5
                · have bb5 : (l[k].kind == 5) = true := by simp [h5]
                  by_cases hx0 : x = 0
                  · have bx : (x == 0) = true := by simp [hx0]
                    have S5 := Lib.hid (step_5 (pt := pt) h5 hx0)
                    clear h1 h2 h3 h5 hx0
                    go_wp2_with fail
                    go_meet
                    rw [E.out, S5.out]
                    exact ⟨rfl, (R6.out.set 0 (.int .i64 0)).set 1 (.int .i64 1), SETG.out _ _ _ GB6.out⟩
                  · have bx : (x == 0) = false := by simp [hx0]
                    have S4 := Lib.hid (step_4 (x := x) (pt := pt) h2 h3 (fun _ => hx0))
                    clear h1 h2 h3 h5 hx0
                    go_wp2_with fail
                    go_meet
                    rw [E.out, S4.out, ← HC1.out, HC2.out]
                    exact ⟨rfl, R6.out, GB6.out⟩
                · have bb5 : (l[k].kind == 5) = false := by simp [h5]
                  have S4 := Lib.hid (step_4 (x := x) (pt := pt) h2 h3 (fun q => absurd q h5))
                  clear h1 h2 h3 h5
                  go_wp2_with fail
                  go_meet
                  rw [E.out, S4.out, ← HC1.out, HC2.out]
                  exact ⟨rfl, R6.out, GB6.out⟩
        case rest =>
          obtain ⟨rfl, hr7, hg7⟩ := hcut
          obtain ⟨n1, en1⟩ : ∃ n, (prR st).1 = n := ⟨_, rfl⟩
          obtain ⟨n2, en2⟩ : ∃ n, (prR st).2 = n := ⟨_, rfl⟩
          obtain ⟨o1, eo1⟩ : ∃ o, st.isSome = o := ⟨_, rfl⟩
          rw [en1, en2] at hr7
          have EN : Hid (prR st = (n1, n2) ∧ st.isSome = o1) := Lib.hid ⟨by rw [← en1, ← en2], eo1⟩
          have b0 := hr7.cell 0 (by simp)
          have b1 := hr7.cell 1 (by simp)
          have bh := hr7.has
          simp only [List.getElem_cons_zero, List.getElem_cons_succ] at b0 b1
          have nb1 : ∀ (v : Value), (∀ g, v.ownBlock = some g → g < BR) → v.ownBlock = none ∨ v.ownBlock ≠ some BR := fun v hv => by
            cases e : v.ownBlock with
            | none => exact .inl rfl
            | some g => exact .inr (fun q => by have := hv g e; have := Option.some.inj q; omega)
          have P7 := P1.out.kept hg7 (nb1 _ nown.out)
          have S7 := Lib.hid (P2.out.kept hg7 (nb1 _ nown2.out))
          have A7 := Lib.hid (P7.alloc (.cells #[.int .i64 n1, .int .i64 n2] 93))
          have C7 : Hid (∀ j u, ([Value.int .i64 n1, .int .i64 n2])[j]? = some u → (wc.alloc (.cells #[.int .i64 n1, .int .i64 n2] 93)).cell? ((⟨wc.heap.size, 0, none⟩ : Addr).add j) = some u) := Lib.hid (row_cells (Row.new wc #[.int .i64 n1, .int .i64 n2] 93))
          have one : Hid (∀ u ∈ [Value.int .i64 n1, .int .i64 n2], u.oneCell' = true) := Lib.hid (by
            intro u hu
            simp only [List.mem_cons, List.not_mem_nil, or_false] at hu
            rcases hu with rfl | rfl <;> rfl)
          have G7 : Hid (Gr w wc) := Lib.hid (G3.out.grown hg7 (fun q e => by have := Option.some.inj e; have := br.out; omega))
          have base : Hid (w.heap.size ≤ wc.heap.size) := Lib.hid G7.out.size
          have nn := owns_two P7 S7.out (by decide)
          have NN := Lib.hid nn
          rw [eo1]
          clear hr7 hg7 P7 nb1 en1 en2 eo1 nn
          go_wp2_with (first
            | (at_builtin; refine wpList_append_own _ rfl _ _ 87 rfl w.heap.size 93 j0 (.agg #[.int .i64 0, .int .i64 0]) 2 16 Tryz.underlying87 hj hy0 hy1 hy2 rfl (by decide) (.slice a1 k c1') k (encP ((rts (l.take k) (s.take k)).map prR)) rfl A7.out ⟨wc.heap.size, 0, none⟩ 1 1 [.int .i64 n1, .int .i64 n2] rfl rfl C7.out one.out (by unfold maxLen; omega) (by omega) (by have := base.out; simp; omega) ?_; intro v' W8 hown hgrow hnil; obtain ⟨a8, c8, rfl⟩ := owns_slice hown; have O8 := Lib.hid hown; have G8 := Lib.hid ((G7.out.alloc (.cells #[.int .i64 n1, .int .i64 n2] 93)).grown hgrow (fun q e => (A7.out.lt q e).1)); have S8 := Lib.hid (((S7.out.alloc (.cells #[.int .i64 n1, .int .i64 n2] 93)).kept hgrow NN.out).alloc (.cells #[.bool o1] 4)); have C8 : Hid (∀ j u, ([Value.bool o1])[j]? = some u → (W8.alloc (.cells #[.bool o1] 4)).cell? ((⟨W8.heap.size, 0, none⟩ : Addr).add j) = some u) := Lib.hid (cell_one_new W8 (.bool o1) 4); clear hown hgrow hnil)
            | (at_builtin; refine wpList_append_own _ rfl _ _ 88 rfl w.heap.size 4 i0 (.bool false) 1 1 Tryz.underlying88 hi hz0 hz1 hz2 rfl (by decide) (.slice a2 k c2') k (bools (onL (rts (l.take k) (s.take k)))) rfl S8.out ⟨W8.heap.size, 0, none⟩ 1 1 [.bool o1] rfl rfl C8.out (by simp [Value.oneCell']) (by unfold maxLen; omega) (by omega) (by have := G8.out.size; simp; omega) ?_; intro v' W9 hown hgrow hnil; obtain ⟨a9, c9, rfl⟩ := owns_slice hown; have O9 := Lib.hid hown; have G9 := Lib.hid ((G8.out.alloc (.cells #[.bool o1] 4)).grown hgrow (fun q e => (S8.out.lt q e).1)); have A9 := Lib.hid ((O8.out.alloc (.cells #[.bool o1] 4)).kept hgrow (owns_two S8.out (O8.out.alloc (.cells #[.bool o1] 4)) (by decide))); clear hown hgrow hnil)
            | fail)
          go_roundw
          case rel =>
            have er : rts (l.take (k + 1)) (s.take (k + 1)) = rts (l.take k) (s.take k) ++ [st] := by rw [rts_take l s k hlt hls, HST.out]
            refine ⟨k + 1, a8, a9, c8, c9, by omega, by go_num, rfl, rfl, ?_, ?_, G9.out⟩
            · rw [er, List.map_append, List.map_cons, List.map_nil, encP_snoc, EN.out.1]; exact A9.out
            · rw [er]
              have := O9.out
              simpa [onL, bools, EN.out.2] using this
          case measure => simp [intOf]; omega
    · obtain rfl : k = l.length := by omega
      go_wp2_with fail
      go_ret2
      have h1 := O1.out
      have h2 := O2.out
      rw [List.take_length, List.take_of_length_le (by have := HSL.out; omega)] at h1 h2
      exact ⟨_, _, rfl, h1, h2, HG.out⟩
end Go.Proofs.YtenehghpmnajpaaGreatDoor
/-! Contracts of the reference's Own, Setting, Limits, where clocks, settings and limits are right. -/
set_option linter.unusedVariables false
set_option linter.unusedSimpArgs false
namespace Go.Proofs.YtenehghpmnajpaaGreatDoor
open Go.RowKit
open Classical
def RatesAt (w : World) (a : Option Addr) (R : List Rt) : Prop := ∀ k, k < R.length → ∃ g, a = some ⟨g, 0, none⟩ ∧ w.cell? ⟨g, k * 2, none⟩ = some (.int .i64 (numR (rtAt R k))) ∧ w.cell? ⟨g, k * 2 + 1, none⟩ = some (.int .i64 (denR (rtAt R k)))
def OnsAt (w : World) (a : Option Addr) (R : List Rt) : Prop := ∀ k, k < R.length → ∃ g, a = some ⟨g, 0, none⟩ ∧ w.cell? ⟨g, k, none⟩ = some (.bool (rtAt R k).isSome)
theorem RatesAt.gr {w w' : World} {a : Option Addr} {R : List Rt} (h : RatesAt w a R) (hg : Gr w w') : RatesAt w' a R := fun k hk => by
  obtain ⟨g, e, c0, c1⟩ := h k hk; exact ⟨g, e, cell_gr hg c0, cell_gr hg c1⟩
theorem OnsAt.gr {w w' : World} {a : Option Addr} {R : List Rt} (h : OnsAt w a R) (hg : Gr w w') : OnsAt w' a R := fun k hk => by
  obtain ⟨g, e, c0⟩ := h k hk; exact ⟨g, e, cell_gr hg c0⟩
theorem rtAt_eq {R : List Rt} {k : Nat} (h : k < R.length) : rtAt R k = R[k] := by rw [rtAt, List.getD_eq_getElem?_getD, List.getElem?_eq_getElem h]; rfl
theorem rates_of_owns {w : World} {base n : Nat} {v : Value} {R : List Rt} (hn : R.length = n) (h : w.ownsRow base 93 2 v n (encP (R.map prR))) : ∃ a c, v = .slice a n c ∧ RatesAt w a R := by
  subst hn
  rcases Nat.eq_zero_or_pos R.length with e | e
  · obtain ⟨a, c, ev⟩ := owns_slice h
    exact ⟨a, c, ev, fun k hk => by omega⟩
  · obtain ⟨g, c, ev, _, _, hc⟩ := owns_cell h e
    refine ⟨_, c, ev, fun k hk => ⟨g, rfl, ?_⟩⟩
    have hat := encP_at (R.map prR) k (by simpa using hk)
    have h0 := hc (k * 2) (by omega)
    have h1 := hc (k * 2 + 1) (by omega)
    rw [List.getElem?_eq_getElem (by rw [encP_len, List.length_map]; omega), hat.1] at h0
    rw [List.getElem?_eq_getElem (by rw [encP_len, List.length_map]; omega), hat.2] at h1
    rw [rtAt_eq hk]
    simp only [List.getElem_map, prR] at h0 h1
    exact ⟨h0, h1⟩
theorem ons_of_owns {w : World} {base n : Nat} {v : Value} {R : List Rt} (hn : R.length = n) (h : w.ownsRow base 4 1 v n (bools (onL R))) : ∃ a c, v = .slice a n c ∧ OnsAt w a R := by
  subst hn
  rcases Nat.eq_zero_or_pos R.length with e | e
  · obtain ⟨a, c, ev⟩ := owns_slice h
    exact ⟨a, c, ev, fun k hk => by omega⟩
  · obtain ⟨g, c, ev, _, _, hc⟩ := owns_cell h e
    refine ⟨_, c, ev, fun k hk => ⟨g, rfl, ?_⟩⟩
    have h0 := hc k (by omega)
    rw [List.getElem?_eq_getElem (by simp [bools, onL]; exact hk)] at h0
    rw [rtAt_eq hk]
    simpa [bools, onL] using h0
def OwnR (R : List Rt) (l : List Clk) : Prop := ∀ i (h : i < l.length), ownOk (rtAt R i) l[i] = true
theorem refOwn_any (l : List Clk) (R : List Rt) (al a1 a2 : Option Addr) (cl c1 c2 : Nat) (w : World) (h : SlOf 5 RClk w al l) (hl : l.length ≤ 16) (hR : RtsGood R) (hRl : R.length = l.length) (hr : RatesAt w a1 R) (ho : OnsAt w a2 R) :
    Calls Tryz.prog 123 #[.slice al l.length cl, .slice a1 l.length c1, .slice a2 l.length c2] w (Grows w (.bool (decide (OwnR R l)))) := by
  have H := Lib.hid h
  have HR := Lib.hid hr
  have HO := Lib.hid ho
  have RG := Lib.hid hR
  have HL := Lib.hid hRl
  clear h hr ho hR hRl
  go_enter Tryz.func123, Tryz.ntmps123
  go_wp2_with fail
  go_loopw [11] (fun i wr => ∃ k : Nat, k ≤ l.length ∧ i = .int .i64 k ∧ (∀ j (h : j < l.length), j < k → ownOk (rtAt R j) l[j] = true) ∧ Gr w wr) (fun i _ => l.length - (intOf i).toNat)
  case atStart => exact ⟨0, Nat.zero_le _, rfl, fun j _ h => absurd h (by omega), Gr.refl _⟩
  case round =>
    obtain ⟨k, hk, rfl, hall, hg⟩ := hrel
    have HA := Lib.hid hall
    have HG := Lib.hid hg
    clear hall hg
    obtain ⟨wo, rfl⟩ : ∃ wo : World, wo = wr := ⟨_, rfl⟩
    by_cases hlt : k < l.length
    · obtain ⟨b, o, rfl, ⟨d0, _⟩, ⟨ap, cp, d1, _⟩, ⟨ac, cc, d2, _⟩, ⟨d3, _⟩, ⟨d4, _⟩⟩ := clks_gr H.out HG.out k hlt
      have hkl : k < R.length := by have := HL.out; omega
      obtain ⟨g1, rfl, r0, r1⟩ := (HR.out.gr HG.out) k hkl
      obtain ⟨g2, rfl, r2⟩ := (HO.out.gr HG.out) k hkl
      have e := rtAt_eq hkl
      have hgd := RG.out k hkl
      rw [← e] at hgd
      obtain ⟨r, hrr⟩ : ∃ r, rtAt R k = r := ⟨_, rfl⟩
      rw [hrr] at r0 r1 r2 hgd
      have gh1 := has_of_cell r0
      have gh2 := has_of_cell r2
      have k2 : (k : Int) < l.length := by omega
      have RR := Lib.hid hrr
      have NX : Hid (ownOk r l[k] = true → ∀ j (h : j < l.length), j < k + 1 → ownOk (rtAt R j) l[j] = true) := Lib.hid fun q j h1 hj => by
        by_cases e : j = k
        · subst e; rw [RR.out]; exact q
        · exact HA.out j h1 (by omega)
      clear hrr e
      cases r with
      | none =>
        simp only [numR, denR, Option.isSome_none] at r0 r1 r2
        clear hgd
        go_wp2_with fail
        refine wp_region_grows (by kernel_rfl) (by kernel_rfl) ?_
        repeat (go_big_quiet_step (fail))
        refine wpQuiet_nil ?_
        rintro _ ⟨⟨O, d⟩, rfl⟩
        go_wp2_with fail
        go_roundw
        case rel => exact ⟨k + 1, by omega, by go_num, NX.out rfl, (HG.out.alloc _).xt _ _⟩
        case measure => simp [intOf]; omega
      | some nd =>
        obtain ⟨n, d⟩ := nd
        obtain ⟨hv, hn1⟩ := hgd n d rfl
        obtain ⟨v1, v2, v3, v4, v5⟩ := valid_parts hv
        simp only [numR, denR, Option.isSome_some] at r0 r1 r2
        clear hv v5 hgd
        by_cases h0 : l[k].high = 0
        · have hb : (l[k].high != 0) = false := by simp [h0]
          have NX3 := Lib.hid (NX.out (by simp [ownOk, h0]))
          clear h0 NX
          go_wp2_with fail
          refine wp_region_grows (by kernel_rfl) (by kernel_rfl) ?_
          repeat (go_big_quiet_step (fail))
          refine wpQuiet_nil ?_
          rintro _ ⟨⟨O, d⟩, rfl⟩
          go_wp2_with fail
          go_roundw
          case rel => exact ⟨k + 1, by omega, by go_num, NX3.out, (HG.out.alloc _).xt _ _⟩
          case measure => simp [intOf]; omega
        · have hb : (l[k].high != 0) = true := by simp [h0]
          have hb2 : (l[k].high == 0) = false := by simp [h0]
          cases hq : withinB n d l[k].low l[k].high with
          | true =>
            have NX3 := Lib.hid (NX.out (by simp [ownOk, hq]))
            have wq := refWithin_any n d l[k].low l[k].high
            rw [hq] at wq
            clear h0 NX hq hb2
            go_wp2_with fail
            refine wp_region_grows (by kernel_rfl) (by kernel_rfl) ?_
            repeat (go_big_quiet_step (first | (go_at_call 118; exact calls_grows (wq _ (by omega) (by omega) (by omega) (by omega)))))
            refine wpQuiet_nil ?_
            rintro _ ⟨⟨O, d⟩, rfl⟩
            go_wp2_with fail
            go_roundw
            case rel => exact ⟨k + 1, by omega, by go_num, NX3.out, (HG.out.alloc _).xt _ _⟩
            case measure => simp [intOf]; omega
          | false =>
            have bad : Hid (¬ OwnR R l) := Lib.hid fun q => by
              have := q k hlt
              rw [RR.out] at this
              simp [ownOk, hb2, hq] at this
            have wq := refWithin_any n d l[k].low l[k].high
            rw [hq] at wq
            clear h0 NX hq hb2
            go_wp2_with fail
            refine wp_region_grows (by kernel_rfl) (by kernel_rfl) ?_
            repeat (go_big_quiet_step (first | (go_at_call 118; exact calls_grows (wq _ (by omega) (by omega) (by omega) (by omega)))))
            refine wpQuiet_nil ?_
            rintro _ ⟨⟨O, d⟩, rfl⟩
            go_wp2_with fail
            go_ret
            exact ⟨ret_bool (decide_eq_false bad.out).symm, (HG.out.alloc _).xt _ _⟩
    · have good : Hid (OwnR R l) := Lib.hid fun j h => HA.out j h (by omega)
      go_wp2_with fail
      go_ret
      exact ⟨ret_bool (decide_eq_true good.out).symm, HG.out⟩
theorem refSetting_ok (l : List Clk) (s : List Int) (al aS : Option Addr) (cl cs : Nat) (w : World) (h : SlOf 5 RClk w al l) (hs : SlOf 1 RI w aS s) (hc : cchk l = 0) (hset : SetOk l s) :
    Calls Tryz.prog 99 #[.slice al l.length cl, .slice aS s.length cs] w (Grows w (.bool true)) := by
  have hl := small_len (cchk_zero hc).1
  have rc := refCheck_any l al cl w h (by unfold Fit; omega)
  rw [hc] at rc
  have RC := Lib.hid rc
  have H := Lib.hid h
  have HS := Lib.hid hs
  have HT := Lib.hid hset
  have HSL := Lib.hid hset.1
  have NB := Lib.hid (cchk_zero hc).1
  rw [hset.1]
  clear rc h hs hset hc
  go_enter Tryz.func99, Tryz.ntmps99
  go_wp2_with fail
  refine RC.out.mono ?_
  rintro e w1 ⟨rfl, hg1⟩
  have G1 := Lib.hid hg1
  clear hg1 RC
  go_wp2_with fail
  go_loopw [19] (fun i wr => ∃ k : Nat, k ≤ l.length ∧ i = .int .i64 k ∧ Gr w wr) (fun i _ => l.length - (intOf i).toNat)
  case atStart => exact ⟨0, Nat.zero_le _, rfl, G1.out⟩
  case round =>
    obtain ⟨k, hk, rfl, hg⟩ := hrel
    have HG := Lib.hid hg
    clear hg
    obtain ⟨wo, rfl⟩ : ∃ wo : World, wo = wr := ⟨_, rfl⟩
    by_cases hlt : k < l.length
    · have hls : k < s.length := by have := HSL.out; omega
      obtain ⟨k0, k1⟩ := HT.out.2 k hlt hls
      obtain ⟨fp, fc⟩ := small_at NB.out hlt
      obtain ⟨b, o, rfl, ⟨d0, _⟩, ⟨ap, cp, d1, _⟩, ⟨ac, cc, d2, _, d2f, _⟩, ⟨d3, _⟩, ⟨d4, _⟩⟩ := clks_gr H.out HG.out k hlt
      obtain ⟨bs, os, rfl, ⟨q1, _⟩⟩ := (HS.out.giI HG.out).one k hls
      have hx1 := has_of_cell q1
      have k2 : (k : Int) < l.length := by omega
      unfold Fit at d2f
      have e1 : decide (s[k] < 0) = false := decide_eq_false (by omega)
      have e2 : decide ((l[k].choices.length : Int) ≤ s[k]) = false := decide_eq_false (by omega)
      go_wp2_with fail
      refine wp_region_grows (by kernel_rfl) (by kernel_rfl) ?_
      repeat (go_big_quiet_step (fail))
      refine wpQuiet_nil ?_
      rintro _ ⟨⟨O, d⟩, rfl⟩
      go_wp2_with fail
      go_roundw
      case rel => exact ⟨k + 1, by omega, by go_num, (HG.out.alloc _).xt _ _⟩
      case measure => simp [intOf]; omega
    · go_wp2_with fail
      go_ret
      exact ⟨rfl, HG.out⟩
theorem refLimits_ok (l : List Clk) (m : List Lmt) (al am : Option Addr) (cl cm : Nat) (w : World) (h : SlOf 5 RClk w al l) (hm : SlOf 3 RLmt w am m) (hc : cchk l = 0) (hlm : m.length ≤ 32 ∧ ∀ j (h : j < m.length), LmtOk l m[j]) :
    Calls Tryz.prog 100 #[.slice al l.length cl, .slice am m.length cm] w (Grows w (.bool true)) := by
  have hl := small_len (cchk_zero hc).1
  have rc := refCheck_any l al cl w h (by unfold Fit; omega)
  rw [hc] at rc
  have RC := Lib.hid rc
  have HM := Lib.hid hm
  have LM := Lib.hid hlm.2
  have hml := hlm.1
  have hmb : decide ((32 : Int) < m.length) = false := decide_eq_false (by omega)
  clear rc h hm hlm hc
  go_enter Tryz.func100, Tryz.ntmps100
  go_wp2_with fail
  refine RC.out.mono ?_
  rintro e w1 ⟨rfl, hg1⟩
  have G1 := Lib.hid hg1
  clear hg1 RC
  go_wp2_with fail
  go_loopw [17] (fun i wr => ∃ k : Nat, k ≤ m.length ∧ i = .int .i64 k ∧ Gr w wr) (fun i _ => m.length - (intOf i).toNat)
  case atStart => exact ⟨0, Nat.zero_le _, rfl, G1.out⟩
  case round =>
    obtain ⟨k, hk, rfl, hg⟩ := hrel
    have HG := Lib.hid hg
    clear hg
    obtain ⟨wo, rfl⟩ : ∃ wo : World, wo = wr := ⟨_, rfl⟩
    by_cases hlt : k < m.length
    · obtain ⟨b, o, rfl, ⟨c0, _⟩, ⟨c1, _⟩, ⟨c2, _⟩⟩ := lmts_gr HM.out HG.out k hlt
      obtain ⟨q0, q1, q2, q3, q4⟩ := LM.out k hlt
      have e1 : decide (m[k].clock < 0) = false := decide_eq_false (by omega)
      have e2 : decide ((l.length : Int) ≤ m[k].clock) = false := decide_eq_false (by omega)
      have e3 : decide (m[k].low < 0) = false := decide_eq_false (by omega)
      have e4 : decide (m[k].high < m[k].low) = false := decide_eq_false (by omega)
      have e5 : decide (4000000000 < m[k].high) = false := decide_eq_false (by omega)
      go_wp2_with fail
      go_roundw
      case rel => exact ⟨k + 1, by omega, by go_num, HG.out.alloc _⟩
      case measure => simp [intOf]; omega
    · go_wp2_with fail
      go_ret
      exact ⟨rfl, HG.out⟩
end Go.Proofs.YtenehghpmnajpaaGreatDoor
/-! Contracts of the reference's calm and Calm, of retune.Calm, where clocks, settings and limits are right. -/
set_option linter.unusedVariables false
set_option linter.unusedSimpArgs false
namespace Go.Proofs.YtenehghpmnajpaaGreatDoor
open Go.RowKit
open Classical
theorem refCalm1_any (l : List Clk) (ms : List Lmt) (s : List Int) (al aS am : Option Addr) (cl cs cm : Nat) (w : World) (h : SlOf 5 RClk w al l) (hs : SlOf 1 RI w aS s) (hm : SlOf 3 RLmt w am ms) (hc : cchk l = 0) (hset : SetOk l s) (hlm : ms.length ≤ 32 ∧ ∀ j (h : j < ms.length), LmtOk l ms[j]) :
    Calls Tryz.prog 93 #[.slice al l.length cl, .slice aS s.length cs, .slice am ms.length cm] w (Grows w (.bool (calS l ms s))) := by
  have hl := small_len (cchk_zero hc).1
  have hRl : (rts l s).length = l.length := rts_len _ _ hset.1.symm
  have ST := Lib.hid (states_any l s al aS cl cs w h hs hc hset)
  rw [hset.1] at ST
  have RG := Lib.hid (rts_good hc hset)
  have H := Lib.hid h
  have HM := Lib.hid hm
  have LM := Lib.hid hlm.2
  have hml := hlm.1
  obtain ⟨R, eR⟩ : ∃ R, rts l s = R := ⟨_, rfl⟩
  have ST2 : Hid (Calls Tryz.prog 51 #[.slice al l.length cl, .slice aS l.length cs] w (fun e w' => ∃ v1 v2, e = .returned (.tuple #[v1, v2]) ∧ w'.ownsRow w.heap.size 93 2 v1 l.length (encP (R.map prR)) ∧ w'.ownsRow w.heap.size 4 1 v2 l.length (bools (onL R)) ∧ Gr w w')) := Lib.hid (by rw [← eR]; exact ST.out)
  rw [eR] at RG hRl
  have cal : calS l ms s = decide (CalmR R l ms) := by rw [← eR]; rfl
  have HL := Lib.hid hRl
  rw [cal, hset.1]
  clear cal ST h hs hm hc hset hlm eR hRl
  go_enter Tryz.func93, Tryz.ntmps93
  go_wp2_with fail
  refine ST2.out.mono ?_
  rintro e w1 ⟨v1, v2, rfl, ho1, ho2, hg⟩
  obtain ⟨a1, c1, rfl, hr⟩ := rates_of_owns HL.out ho1
  obtain ⟨a2, c2, rfl, hon⟩ := ons_of_owns HL.out ho2
  have HR := Lib.hid hr
  have HO := Lib.hid hon
  have G1 := Lib.hid hg
  clear ho1 ho2 hr hon hg ST2
  go_wp2_with fail
  go_loopw [19] (fun i wr => ∃ k : Nat, k ≤ ms.length ∧ i = .int .i64 k ∧ (∀ j (h : j < ms.length), j < k → okIn (rtAt R ms[j].clock.toNat) 0 ms[j].high = true) ∧ Gr w1 wr) (fun i _ => ms.length - (intOf i).toNat)
  case atStart => exact ⟨0, Nat.zero_le _, rfl, fun j _ h => absurd h (by omega), Gr.refl _⟩
  case round =>
    obtain ⟨k, hk, rfl, hall, hg⟩ := hrel
    have HA := Lib.hid hall
    have HG := Lib.hid hg
    clear hall hg
    obtain ⟨wo, rfl⟩ : ∃ wo : World, wo = wr := ⟨_, rfl⟩
    by_cases hlt : k < ms.length
    · obtain ⟨b, o, rfl, ⟨d0, _⟩, ⟨d1, _⟩, ⟨d2, _⟩⟩ := lmts_gr HM.out (G1.out.trans HG.out) k hlt
      obtain ⟨u0, u1, _⟩ := LM.out k hlt
      obtain ⟨q, hq⟩ : ∃ q : Nat, ms[k].clock = q := ⟨_, (Int.toNat_of_nonneg u0).symm⟩
      have eq : ms[k].clock.toNat = q := by omega
      have hql : q < R.length := by have := HL.out; omega
      obtain ⟨g1, rfl, r0, r1⟩ := (HR.out.gr HG.out) q hql
      obtain ⟨g2, rfl, r2⟩ := (HO.out.gr HG.out) q hql
      have e := rtAt_eq hql
      have hgd := RG.out q hql
      rw [← e] at hgd
      obtain ⟨r, hrr⟩ : ∃ r, rtAt R q = r := ⟨_, rfl⟩
      rw [hrr] at r0 r1 r2 hgd
      have gh1 := has_of_cell r0
      have gh2 := has_of_cell r2
      have q2 : (q : Int) < l.length := by omega
      have RR : Hid (rtAt R ms[k].clock.toNat = r) := Lib.hid (by rw [eq]; exact hrr)
      have NX : Hid (okIn r 0 ms[k].high = true → ∀ j (h : j < ms.length), j < k + 1 → okIn (rtAt R ms[j].clock.toNat) 0 ms[j].high = true) := Lib.hid fun q j h1 hj => by
        by_cases e : j = k
        · subst e; rw [RR.out]; exact q
        · exact HA.out j h1 (by omega)
      have BAD : Hid (okIn r 0 ms[k].high = false → ¬ CalmR R l ms) := Lib.hid fun q h => by
        have := h.2 k hlt
        rw [RR.out, q] at this; cases this
      rw [hq] at d0
      clear hrr e eq u0 u1 hq
      cases r with
      | none =>
        simp only [numR, denR, Option.isSome_none] at r0 r1 r2
        have bad := Lib.hid (BAD.out rfl)
        clear hgd NX BAD
        go_wp2_with fail
        refine wp_region_grows (by kernel_rfl) (by kernel_rfl) ?_
        repeat (go_big_quiet_step (fail))
        refine wpQuiet_nil ?_
        rintro _ ⟨⟨O, d⟩, rfl⟩
        go_wp2_with fail
        go_ret
        exact ⟨ret_bool (decide_eq_false bad.out).symm, ((G1.out.trans HG.out).alloc _).xt _ _⟩
      | some nd =>
        obtain ⟨n, d⟩ := nd
        obtain ⟨hv, hn1⟩ := hgd n d rfl
        obtain ⟨v1, v2, v3, v4, v5⟩ := valid_parts hv
        simp only [numR, denR, Option.isSome_some] at r0 r1 r2
        clear hv v5 hgd
        cases hq : withinB n d 0 ms[k].high with
        | true =>
          have NX3 := Lib.hid (NX.out (by simp [okIn, hq]))
          have wq := refWithin_any n d 0 ms[k].high
          rw [hq] at wq
          clear NX BAD hq
          go_wp2_with fail
          refine wp_region_grows (by kernel_rfl) (by kernel_rfl) ?_
          repeat (go_big_quiet_step (first | (go_at_call 118; exact calls_grows (wq _ (by omega) (by omega) (by omega) (by omega)))))
          refine wpQuiet_nil ?_
          rintro _ ⟨⟨O, d⟩, rfl⟩
          go_wp2_with fail
          go_roundw
          case rel => exact ⟨k + 1, by omega, by go_num, NX3.out, (HG.out.alloc _).xt _ _⟩
          case measure => simp [intOf]; omega
        | false =>
          have bad := Lib.hid (BAD.out (by simp [okIn, hq]))
          have wq := refWithin_any n d 0 ms[k].high
          rw [hq] at wq
          clear NX BAD hq
          go_wp2_with fail
          refine wp_region_grows (by kernel_rfl) (by kernel_rfl) ?_
          repeat (go_big_quiet_step (first | (go_at_call 118; exact calls_grows (wq _ (by omega) (by omega) (by omega) (by omega)))))
          refine wpQuiet_nil ?_
          rintro _ ⟨⟨O, d⟩, rfl⟩
          go_wp2_with fail
          go_ret
          exact ⟨ret_bool (decide_eq_false bad.out).symm, ((G1.out.trans HG.out).alloc _).xt _ _⟩
    · have HA2 : Hid (∀ j (h : j < ms.length), okIn (rtAt R ms[j].clock.toNat) 0 ms[j].high = true) := Lib.hid fun j h => HA.out j h (by omega)
      have OW := refOwn_any l R al a1 a2 cl c1 c2 wo (clks_gr H.out (G1.out.trans HG.out)) (by omega) RG.out HL.out (HR.out.gr HG.out) (HO.out.gr HG.out)
      have OW' := Lib.hid OW
      have EQ : Hid (decide (OwnR R l) = decide (CalmR R l ms)) := Lib.hid (by rw [decide_eq_decide]; exact ⟨fun q => ⟨q, HA2.out⟩, fun q => q.1⟩)
      clear HA OW
      go_wp2_with fail
      refine OW'.out.mono ?_
      rintro e w5 ⟨rfl, hg5⟩
      have G5 := Lib.hid ((G1.out.trans HG.out).trans hg5)
      clear hg5
      go_wp2_with fail
      go_ret
      exact ⟨ret_bool EQ.out, G5.out⟩
theorem refCalm_any (l : List Clk) (ms : List Lmt) (s : List Int) (al aS am : Option Addr) (cl cs cm : Nat) (w : World) (h : SlOf 5 RClk w al l) (hs : SlOf 1 RI w aS s) (hm : SlOf 3 RLmt w am ms) (hc : cchk l = 0) (hset : SetOk l s) (hlm : ms.length ≤ 32 ∧ ∀ j (h : j < ms.length), LmtOk l ms[j]) :
    Calls Tryz.prog 41 #[.slice al l.length cl, .slice aS s.length cs, .slice am ms.length cm] w (Grows w (.bool (calS l ms s))) := by
  have S1 := Lib.hid (fun W (hW : Gr w W) => refSetting_ok l s al aS cl cs W (clks_gr h hW) (hs.giI hW) hc hset)
  have S2 := Lib.hid (fun W (hW : Gr w W) => refLimits_ok l ms al am cl cm W (clks_gr h hW) (lmts_gr hm hW) hc hlm)
  have S3 := Lib.hid (fun W (hW : Gr w W) => refCalm1_any l ms s al aS am cl cs cm W (clks_gr h hW) (hs.giI hW) (lmts_gr hm hW) hc hset hlm)
  clear h hs hm hc hset hlm
  go_enter Tryz.func41, Tryz.ntmps41
  go_wp2_with fail
  refine (S1.out _ (Gr.refl _)).mono ?_
  rintro e w1 ⟨rfl, hg1⟩
  have G1 := Lib.hid hg1
  clear hg1
  go_wp2_with fail
  refine (S2.out _ G1.out).mono ?_
  rintro e w2 ⟨rfl, hg2⟩
  have G2 := Lib.hid (G1.out.trans hg2)
  clear hg2
  go_wp2_with fail
  refine (S3.out _ G2.out).mono ?_
  rintro e w3 ⟨rfl, hg3⟩
  have G3 := Lib.hid (G2.out.trans hg3)
  clear hg3
  go_wp2_with fail
  go_ret
  exact ⟨rfl, G3.out⟩
theorem proCalm_any (l : List Clk) (ms : List Lmt) (s : List Int) (al aS am : Option Addr) (cl cs cm : Nat) (w : World) (henv : Env w l ms al am) (hs : SlOf 1 RI w aS s) (hset : SetOk l s) :
    Calls Tryz.prog 40 #[.slice al l.length cl, .slice aS s.length cs, .slice am ms.length cm] w (Grows w (.bool (calS l ms s))) := by
  have hl := small_len (cchk_zero henv.chk).1
  have ff : Fit l.length := by unfold Fit; omega
  have fs : Fit s.length := by rw [hset.1]; exact ff
  have fm : Fit ms.length := by have := henv.lims.1; unfold Fit; omega
  have S1 : Hid (∀ W, Gr w W → Calls Tryz.prog 97 #[.slice al l.length cl, .slice am ms.length cm] W (Grows W (.bool true))) := Lib.hid fun W hW => by
    have := pLimits_any l ms al am cl cm W (clks_gr henv.clks hW) ff (lmts_gr henv.lmts hW) fm
    rwa [decide_eq_true (show LmtsOk l ms from ⟨henv.chk, henv.lims.1, henv.lims.2⟩)] at this
  have S2 : Hid (∀ W, Gr w W → Calls Tryz.prog 86 #[.slice al l.length cl, .slice aS s.length cs] W (Grows W (.bool true))) := Lib.hid fun W hW => by
    have := pSetting_any l s al aS cl cs W (clks_gr henv.clks hW) (hs.giI hW) ff fs
    rwa [decide_eq_true ⟨henv.chk, hset⟩] at this
  have S3 := Lib.hid (fun W (hW : Gr w W) => calm_any l ms s al aS am cl cs cm W (clks_gr henv.clks hW) (hs.giI hW) (lmts_gr henv.lmts hW) henv.chk hset henv.lims (henv.off.gr hW))
  clear henv hs hset ff fs fm
  go_enter Tryz.func40, Tryz.ntmps40
  go_wp2_with fail
  refine (S1.out _ (Gr.refl _)).mono ?_
  rintro e w1 ⟨rfl, hg1⟩
  have G1 := Lib.hid hg1
  clear hg1
  go_wp2_with fail
  refine (S2.out _ G1.out).mono ?_
  rintro e w2 ⟨rfl, hg2⟩
  have G2 := Lib.hid (G1.out.trans hg2)
  clear hg2
  go_wp2_with fail
  refine (S3.out _ G2.out).mono ?_
  rintro e w3 ⟨rfl, hg3⟩
  have G3 := Lib.hid (G2.out.trans hg3)
  clear hg3
  go_wp2_with fail
  go_ret
  exact ⟨rfl, G3.out⟩
end Go.Proofs.YtenehghpmnajpaaGreatDoor
/-! Contract of the reference's Next: the settings in order. -/
set_option linter.unusedVariables false
set_option linter.unusedSimpArgs false
namespace Go.Proofs.YtenehghpmnajpaaGreatDoor
open Go.RowKit
open Classical
def nxV (s : List Int) (j : Nat) : List Int := s.take j ++ List.replicate (s.length - j) 0
theorem nxV_len (s : List Int) (j : Nat) (h : j ≤ s.length) : (nxV s j).length = s.length := by simp [nxV]; omega
theorem nxV_all (s : List Int) : nxV s s.length = s := by simp [nxV]
theorem nxV_at (s : List Int) (j : Nat) (h : j < s.length) : (nxV s (j + 1))[j]'(by rw [nxV_len s (j + 1) (by omega)]; exact h) = s[j] := by
  simp only [nxV]
  rw [List.getElem_append_left (by simp; omega)]; simp
theorem nxV_step (s : List Int) (j : Nat) (h : j < s.length) : (nxV s (j + 1)).set j 0 = nxV s j := by
  have hr : s.length - j = (s.length - (j + 1)) + 1 := by omega
  simp only [nxV]
  rw [take_snoc_get s j h, hr, List.replicate_succ, List.append_assoc, List.set_append_right _ _ (by simp; omega)]
  simp [Nat.min_eq_left (Nat.le_of_lt h)]
theorem sOf_nxV {s : List Int} {j i : Nat} (hj : j ≤ s.length) (hi : i < s.length) : sOf (nxV s j) i = if i < j then sOf s i else 0 := by
  rw [sOf_at (by rw [nxV_len s j hj]; exact hi)]
  simp only [nxV]
  split
  · rename_i h
    rw [List.getElem_append_left (by simp; omega), sOf_at hi]; simp
  · rename_i h
    rw [List.getElem_append_right (by simp; omega)]; simp
def AllLast (l : List Clk) (s : List Int) (j : Nat) : Prop := ∀ i, j ≤ i → i < l.length → sOf s i = kOf l i - 1
theorem num_last {l : List Clk} {s : List Int} (h : AllLast l s 0) : num l s + 1 = (prodC l : Nat) := by
  have : ∀ j, j ≤ l.length → numU (kOf l) (sOf s) j + 1 = (prodC (l.take j) : Nat) := by
    intro j
    induction j with
    | zero => intro _; simp [numU, prodC]
    | succ j ih =>
      intro hj
      have h1 := ih (by omega)
      have h2 := h j (by omega) (by omega)
      rw [prodC_take l j (by omega), Int.natCast_mul, ← h1, ← kOf_at (l := l) (i := j) (by omega)]
      simp only [numU]
      rw [Int.add_mul]; omega
  have := this l.length (Nat.le_refl _)
  rwa [List.take_length] at this
def nxS (s : List Int) (j : Nat) : List Int := (nxV s (j + 1)).set j (sOf s j + 1)
theorem sOf_nxS {s : List Int} {j i : Nat} (hj : j < s.length) (hi : i < s.length) : sOf (nxS s j) i = if i < j then sOf s i else if i = j then sOf s j + 1 else 0 := by
  unfold nxS
  rw [sOf_set (by rw [nxV_len s (j + 1) (by omega)]; exact hj), sOf_nxV (by omega) hi]
  split
  · rename_i h; subst h; simp
  · rename_i h
    split
    · rw [if_pos (by omega)]
    · rw [if_neg (by omega)]
theorem nxS_ok {l : List Clk} {s : List Int} {j : Nat} (hs : SetOk l s) (hj : j < l.length) (h : sOf s j + 1 < kOf l j) (hk : ∀ i, i < l.length → 1 ≤ kOf l i) : SetOk l (nxS s j) := by
  have hl := hs.1
  refine setOk_of (by unfold nxS; rw [List.length_set, nxV_len s (j + 1) (by omega)]; exact hl) fun i hi => ?_
  rw [sOf_nxS (by omega) (by omega)]
  have := hs.at hi
  have := hs.at hj
  have := hk i hi
  split
  · omega
  · split
    · rename_i e; subst e; omega
    · omega
theorem num_nxS {l : List Clk} {s : List Int} {j : Nat} (hs : SetOk l s) (hj : j < l.length) (hlast : AllLast l s (j + 1)) : num l (nxS s j) = num l s + 1 := by
  have hl := hs.1
  have low : ∀ i, i ≤ j → numU (kOf l) (sOf (nxS s j)) i = numU (kOf l) (sOf s) i := by
    intro i
    induction i with
    | zero => intro _; rfl
    | succ i ih =>
      intro hi
      simp only [numU]
      rw [ih (by omega), sOf_nxS (by omega) (by omega), if_pos (by omega)]
  have high : ∀ d, j + 1 + d ≤ l.length → numU (kOf l) (sOf (nxS s j)) (j + 1 + d) = numU (kOf l) (sOf s) (j + 1 + d) + 1 := by
    intro d
    induction d with
    | zero =>
      intro _
      simp only [numU, Nat.add_zero]
      rw [low j (Nat.le_refl _), sOf_nxS (by omega) (by omega), if_neg (by omega), if_pos rfl]; omega
    | succ d ih =>
      intro hd
      have h1 := ih (by omega)
      have h2 := hlast (j + 1 + d) (by omega) (by omega)
      rw [show j + 1 + (d + 1) = (j + 1 + d) + 1 by omega]
      simp only [numU]
      rw [h1, sOf_nxS (by omega) (by omega), if_neg (by omega), if_neg (by omega), h2, Int.add_mul]; omega
  have := high (l.length - (j + 1)) (by omega)
  rwa [show j + 1 + (l.length - (j + 1)) = l.length by omega] at this
theorem wpList_append_fresh {P : Program} (w : World) {ops : Array Oper} {rest : List Oper} {o : Oper} {a : Act} {Q : Exit → Act → World → Prop} (hgd : o.guard = none) (s x : Operand) (t : TypeId)
    (ho : o.op = .call { callee := .builtin .append, args := #[s, x], argTypes := #[t, t] }) (e : TypeId) (i : TypeInfo) (z : Value) (bytes : Nat) (ht : P.underlying t = some (.slice e)) (hi : P.info? e = some i) (hz : i.zero = some z) (hs : i.size = 1) (hb : i.bytes = bytes)
    (b ad : Addr) (m c : Nat) (news : List Value) (hv : a.eval s = .slice (some b) 0 0) (hx : a.eval x = .slice (some ad) m c) (hl : news.length = m) (hnews : ∀ j u, news[j]? = some u → w.cell? (ad.add j) = some u) (hm : 0 < m) (h63 : m ≤ 1000000) (hbytes : bytes ≤ 8) (H : Nat) (hH : w.heap.size = H)
    (h : ∀ cap Z, m ≤ cap → wpList P ops Q rest (a.put o.dst (.slice (some ⟨H, 0, none⟩) m cap)) (w.drew.alloc (.cells (news.toArray ++ Z) e))) : wpList P ops Q (o :: rest) a w := by
  subst hH
  refine wpList_plain hgd fun K hK => ?_
  obtain ⟨cap, Z, hc, hr⟩ := run_append_fresh (P := P) w t o.type e i z bytes ht hi hz hs hb b ad m c news hl hnews hm h63 hbytes
  unfold Oper.wp execOp
  simp only [ho, resolve, invoke, builtin, Sem.run_bind, Sem.run_pure, Result.andThen_ok, List.map_toArray, List.map_cons, List.map_nil, hv, hx, hr]
  exact hK _ _ (h cap Z hc)
def GivesNext (w : World) (l : List Clk) (s : List Int) (e : Ending) (w' : World) : Prop :=
  Gr w w' ∧ ((∃ t B c, e = .returned (.tuple #[.slice (some ⟨B, 0, none⟩) l.length c, .bool true]) ∧ RowS w' B 3 (nums t) ∧ w.heap.size ≤ B ∧ SetOk l t ∧ num l t = num l s + 1) ∨
    (e = .returned (.tuple #[.slice none 0 0, .bool false]) ∧ num l s + 1 = (prodC l : Nat)))
theorem next_any (l : List Clk) (s : List Int) (al aS : Option Addr) (cl cs : Nat) (w : World) (h : SlOf 5 RClk w al l) (hs : SlOf 1 RI w aS s) (hc : cchk l = 0) (hset : SetOk l s) (hl1 : 1 ≤ l.length) :
    Calls Tryz.prog 77 #[.slice al l.length cl, .slice aS s.length cs] w (GivesNext w l s) := by
  have hl := small_len (cchk_zero hc).1
  have hsl : s.length = l.length := hset.1
  obtain ⟨i0, hi, hz0, hz1, hz2⟩ := info_parts infoInt
  obtain ⟨bs, os, rfl, h00⟩ := hs 0 (by omega)
  have cs0 := slI_cells (b := bs) (o := os) (s := none) (vs := s) (w := w) hs
  have CS := Lib.hid cs0
  have H := Lib.hid h
  have HT := Lib.hid hset
  have HC := Lib.hid hc
  have NB := Lib.hid (cchk_zero hc).1
  have SW := Lib.hid (setOk_wide hc hset)
  have HSL := Lib.hid hsl
  have gE : Gr w (w.alloc (.cells #[] 3)) := (Gr.refl _).alloc _
  have CS1 : Hid (∀ j u, (nums s)[j]? = some u → (w.alloc (.cells #[] 3)).cell? ((⟨bs, os, none⟩ : Addr).add j) = some u) := Lib.hid (fun j u hu => cell_gr gE (CS.out j u hu))
  rw [hsl]
  clear h00 h hset hc cs0 hsl gE hs
  go_enter Tryz.func77, Tryz.ntmps77
  go_wp2_with (first
    | (at_builtin; refine wpList_append_fresh _ rfl _ _ 22 rfl 3 i0 (.int .i64 0) 8 Tryz.underlying22 hi hz0 hz1 hz2 ⟨w.heap.size, 0, none⟩ ⟨bs, os, none⟩ l.length cs (nums s) rfl rfl (by rw [nums_len]; exact HSL.out) CS1.out (by omega) (by omega) (by omega) (w.heap.size + 1) (by simp) ?_; intro cap Z hcap)
    | fail)
  obtain ⟨NB0, hNB0⟩ : ∃ NB0 : Nat, Hid (w.heap.size + 1 = NB0) := ⟨_, Lib.hid rfl⟩
  rw [hNB0.out]
  obtain ⟨W2, hW2⟩ : ∃ W2 : World, Hid (W2 = ((w.alloc (.cells #[] 3)).alloc (.cells ((nums s).toArray ++ Z) 3)).drew) := ⟨_, Lib.hid rfl⟩
  rw [← hW2.out]
  have R2 : Hid (RowS W2 NB0 3 (nums (nxV s l.length))) := Lib.hid (by
    have e : nxV s l.length = s := by have := HSL.out; rw [← this]; exact nxV_all s
    rw [hW2.out, e]
    exact (row_fresh' _ (nums s) Z 3 NB0 (by rw [← hNB0.out]; simp)).drew)
  have G2 : Hid (Gr w W2) := Lib.hid (by rw [hW2.out]; exact (((Gr.refl _).alloc _).alloc _).drew)
  have nb0 : Hid (w.heap.size ≤ NB0) := Lib.hid (by have := hNB0.out; omega)
  clear hW2 hNB0
  go_loopw [7] (fun i wr => ∃ j : Nat, j ≤ l.length ∧ i = .int .i64 ((j : Int) - 1) ∧ RowS wr NB0 3 (nums (nxV s j)) ∧ AllLast l s j ∧ Gr w wr) (fun i _ => (intOf i + 1).toNat)
  case atStart => exact ⟨l.length, Nat.le_refl _, by go_num, R2.out, fun i h1 h2 => by omega, G2.out⟩
  case round =>
    clear R2 G2
    obtain ⟨j', hj', rfl, hr, hla, hg⟩ := hrel
    have HR := Lib.hid hr
    have LA := Lib.hid hla
    have HG := Lib.hid hg
    clear hr hla hg
    cases j' with
    | zero =>
      go_wp2_with fail
      go_ret2
      exact ⟨HG.out, .inr ⟨rfl, num_last LA.out⟩⟩
    | succ j =>
      rw [show ((j + 1 : Nat) : Int) - 1 = (j : Int) by omega]
      have hjl : j < l.length := by omega
      have hjs : j < s.length := by have := HSL.out; omega
      obtain ⟨k0, k1⟩ := HT.out.2 j hjl hjs
      obtain ⟨fp, fc⟩ := small_at NB.out hjl
      obtain ⟨b, o, rfl, ⟨d0, _⟩, ⟨ap, cp, d1, _⟩, ⟨ac, cc, d2, _, d2f, _⟩, ⟨d3, _⟩, ⟨d4, _⟩⟩ := clks_gr H.out HG.out j hjl
      have hlen : j < (nums (nxV s (j + 1))).length := by rw [nums_len, nxV_len s (j + 1) (by omega)]; exact hjs
      have e0 := HR.out.cell j hlen
      have hz : (nums (nxV s (j + 1)))[j] = .int .i64 s[j] := by simp [nums, nxV_at s j hjs]
      rw [hz] at e0
      have f0 := HR.out.free j
      have rh := HR.out.has
      have k2 : (j : Int) < l.length := by omega
      have EK : Hid (kOf l j = (l[j].choices.length : Int)) := Lib.hid (kOf_at hjl)
      have ES : Hid (sOf s j = s[j]) := Lib.hid (sOf_at hjs)
      have R1 : Hid (RowS (wr.setCell ⟨NB0, j, none⟩ (.int .i64 (s[j] + 1))) NB0 3 (nums (nxS s j))) := Lib.hid (by
        have := HR.out.set j hlen (.int .i64 (s[j] + 1))
        rw [nums_set] at this
        unfold nxS; rw [ES.out]; exact this)
      have nd : ∀ {C : Nat}, Has wr C → True := fun _ => trivial
      have dne : ¬ (b = NB0) := by
        intro e
        subst e
        have h5 := clks_gr H.out (Gr.refl w) j hjl
        obtain ⟨b', o', e', ⟨q0, _⟩, _⟩ := h5
        cases e'
        have := has_of_cell q0
        have := nb0.out
        unfold Has at *; omega
      have dne2 : ¬ (NB0 = b) := fun e => dne e.symm
      unfold Fit at d2f
      clear hz hlen
      by_cases hlt : s[j] + 1 < l[j].choices.length
      · have hd : decide (s[j] + 1 < (l[j].choices.length : Int)) = true := decide_eq_true hlt
        have OK : Hid (SetOk l (nxS s j)) := Lib.hid (nxS_ok HT.out hjl (by rw [EK.out, ES.out]; exact hlt) (fun i hi => by
          rw [kOf_at hi]
          have := allOk_cho (cchk_zero HC.out).2.1 _ (List.getElem_mem hi)
          omega))
        have NM := Lib.hid (num_nxS HT.out hjl LA.out)
        clear hlt
        go_wp2_with fail
        go_quiet (fail)
        go_wp2_with fail
        go_ret2
        exact ⟨(HG.out.setc nb0.out).drewN _, .inl ⟨nxS s j, NB0, cap, rfl, R1.out.drewN _, nb0.out, OK.out, NM.out⟩⟩
      · have hd : decide (s[j] + 1 < (l[j].choices.length : Int)) = false := decide_eq_false hlt
        have LA2 : Hid (AllLast l s j) := Lib.hid (fun i h1 h2 => by
          by_cases e : i = j
          · subst e; rw [EK.out, ES.out]; omega
          · exact LA.out i (by omega) h2)
        clear hlt
        go_wp2_with fail
        go_quiet (fail)
        go_wp2_with fail
        go_roundw
        case rel =>
          refine ⟨j, by omega, by go_num, ?_, LA2.out, ?_⟩
          · have q := ((R1.out.drewN nq).iset j (by
              unfold nxS
              rw [List.length_set, nxV_len s (j + 1) (by omega)]; exact hjs) 0)
            unfold nxS at q
            rw [List.set_set, nxV_step s j hjs] at q
            exact q
          · exact ((HG.out.setc nb0.out).drewN nq).setc nb0.out
        case measure => simp [intOf]
end Go.Proofs.YtenehghpmnajpaaGreatDoor
